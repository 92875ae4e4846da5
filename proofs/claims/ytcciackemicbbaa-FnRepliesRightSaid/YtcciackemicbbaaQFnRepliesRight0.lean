/- Lemmas for FnRepliesRight: what each function comes to. No condition. -/
import Derived.Test.YtcciackemicbbaaLFnRepliesRight
namespace Go.Proofs.Ytcciackemicbbaa.Pure
open Go.RowKit Go.Proofs.Ytcciackemicbbaa.PFnRepliesRight Go.Proofs.YtcciackemicbbaaW.PrintWords Go.Proofs.YtcciackemicbbaaW.PrintLast Go.Proofs.YtcciackemicbbaaW.PrintMore Go.Proofs.Ytcciackemicbbaa.Lim
set_option linter.unusedVariables false
set_option linter.unusedSimpArgs false

/-! #### basic -/
theorem w64 {n : Int} (h1 : -9223372036854775808 ≤ n) (h2 : n ≤ 9223372036854775807) : wrap64 n = n := by unfold wrap64; omega
theorem wf64 {n : Int} (h : (Lit.int .i64 n).wf = true) : -9223372036854775808 ≤ n ∧ n ≤ 9223372036854775807 := by
  simp only [Lit.wf, IntKind.min, IntKind.max, IntKind.signed, IntKind.bits, Bool.and_eq_true, decide_eq_true_eq, if_true] at h
  omega
theorem wf8 {n : Int} (h : (Lit.int .u8 n).wf = true) : 0 ≤ n ∧ n ≤ 255 := by
  simp only [Lit.wf, IntKind.min, IntKind.max, IntKind.signed, IntKind.bits, Bool.and_eq_true, decide_eq_true_eq] at h
  simp at h
  omega
theorem mn_eq (a b : Int) : mn a b = if a ≤ b then a else b := by unfold mn; split <;> split <;> omega
theorem mx_eq (a b : Int) : mx a b = if a ≤ b then b else a := by unfold mx; split <;> split <;> omega
theorem rd_drop {xs : List Int} {i : Int} {y : Int} {ys : List Int} (h0 : 0 ≤ i) (h : xs.drop i.toNat = y :: ys) : rd xs i = y ∧ i < xs.length ∧ xs.drop (i + 1).toNat = ys := by
  have h1 : i.toNat < xs.length := by
    by_cases e : i.toNat < xs.length
    · exact e
    · rw [List.drop_eq_nil_of_le (by omega)] at h; cases h
  rw [List.drop_eq_getElem_cons h1] at h
  injection h with ha hb
  refine ⟨?_, by omega, ?_⟩
  · unfold rd; rw [List.getD_eq_getElem?_getD, List.getElem?_eq_getElem h1]; exact ha
  · rw [show (i + 1).toNat = i.toNat + 1 by omega]; exact hb
theorem drop_nil {α : Type} {xs : List α} {i : Int} (h0 : 0 ≤ i) (hi : i ≤ xs.length) (h : xs.drop i.toNat = []) : i = xs.length := by
  have := congrArg List.length h
  simp at this
  omega
theorem rdOf_drop {α : Type} {d : α} {xs : List α} {i : Int} {y : α} {ys : List α} (h0 : 0 ≤ i) (h : xs.drop i.toNat = y :: ys) : rdOf d xs i = y ∧ i < xs.length ∧ xs.drop (i + 1).toNat = ys := by
  have h1 : i.toNat < xs.length := by
    by_cases e : i.toNat < xs.length
    · exact e
    · rw [List.drop_eq_nil_of_le (by omega)] at h; cases h
  rw [List.drop_eq_getElem_cons h1] at h
  injection h with ha hb
  refine ⟨?_, by omega, ?_⟩
  · unfold rdOf; rw [List.getD_eq_getElem?_getD, List.getElem?_eq_getElem h1]; exact ha
  · rw [show (i + 1).toNat = i.toNat + 1 by omega]; exact hb

/-! #### bytes -/
/-- A string's bytes as numbers. -/
def bs (s : ByteArray) : List Int := s.data.toList.map fun b => (b.toNat : Int)
theorem bs_length (s : ByteArray) : (bs s).length = s.size := by simp [bs]
theorem bt_bs (s : ByteArray) (i : Int) : bt s i = rd (bs s) i := by
  unfold bt rd bs
  rw [List.getD_eq_getElem?_getD, List.getElem?_map]
  by_cases h : i.toNat < s.size
  · rw [dif_pos h, List.getElem?_eq_getElem (by simpa using h)]; simp; rfl
  · rw [dif_neg h, List.getElem?_eq_none (by simpa using h)]; rfl
theorem bs_range (s : ByteArray) : ∀ b ∈ bs s, 0 ≤ b ∧ b ≤ 255 := by
  intro b hb
  simp only [bs, List.mem_map] at hb
  obtain ⟨c, _, rfl⟩ := hb
  have := c.toNat_lt
  omega
theorem bs_inj {s t : ByteArray} (h : bs s = bs t) : s = t := by
  have h1 : s.data.toList = t.data.toList := by
    refine List.map_inj_right (f := fun b : UInt8 => (b.toNat : Int)) ?_ |>.1 h
    intro x y hxy
    exact UInt8.toNat_inj.1 (by omega)
  cases s; cases t
  simp only [ByteArray.mk.injEq]
  exact Array.ext' h1
theorem toList_loop (s : ByteArray) (i : Nat) (r : List UInt8) : ByteArray.toList.loop s i r = r.reverse ++ s.data.toList.drop i := by
  unfold ByteArray.toList.loop
  split
  next h =>
    rw [toList_loop s (i + 1) (s.get! i :: r)]
    have h' : i < s.data.toList.length := by simpa using h
    rw [List.drop_eq_getElem_cons h']
    have : s.get! i = s.data.toList[i] := by
      show s.data[i]! = _
      rw [getElem!_pos s.data i (by simpa using h)]; simp
    rw [this]; simp
  next h =>
    rw [List.drop_eq_nil_of_le (by simpa using h)]; simp
  termination_by s.size - i
theorem toList_data (s : ByteArray) : s.toList = s.data.toList := by
  unfold ByteArray.toList; rw [toList_loop]; simp
theorem toList_nil (s : ByteArray) : s.toList = [] ↔ bs s = [] := by rw [toList_data]; simp [bs]
theorem bs_drop (s : ByteArray) (i j : Nat) (hj : s.size ≤ j) : bs (s.extract i j) = (bs s).drop i := by
  unfold bs
  rw [ByteArray.data_extract, ← List.map_drop]
  congr 1
  rw [Array.toList_extract]
  have : s.data.toList.length = s.size := by simp
  simp only [List.extract]
  rw [List.take_of_length_le (by rw [List.length_drop]; omega)]
theorem bs_take (s : ByteArray) (j : Nat) : bs (s.extract 0 j) = (bs s).take j := by
  unfold bs
  rw [ByteArray.data_extract, ← List.map_take]
  congr 1
  rw [Array.toList_extract]
  simp [List.extract]

/-! #### keys -/
def letters (l : List Int) : Bool := l.all fun b => decide (97 ≤ b ∧ b ≤ 122)
/-- KeyValid, over the bytes. -/
def keyOk (l : List Int) : Bool := decide (1 ≤ l.length ∧ l.length ≤ 4) && letters l
theorem rd_zero {l : List Int} {b : Int} {t : List Int} (h : l = b :: t) : rd l 0 = b := by subst h; rfl
theorem impl_lettersOnly_f : ∀ (l : List Int) (s : ByteArray), bs s = l → impl_lettersOnly.fL s = some (letters l)
  | [], s, h => by rw [impl_lettersOnly.fL_eq, if_pos ((toList_nil s).2 h)]; rfl
  | b :: l, s, h => by
    have hs : s.size = l.length + 1 := by rw [← bs_length, h]; rfl
    have hn : ¬ s.toList = [] := by rw [toList_nil, h]; simp
    have hd : bs (s.extract 1 s.size) = l := by rw [bs_drop s 1 s.size (Nat.le_refl _), h]; rfl
    rw [impl_lettersOnly.fL_eq, if_neg hn, if_pos (by omega), bt_bs, rd_zero h, if_pos (by omega : (1 : Int) ≤ (s.size : Int)), impl_lettersOnly_f l _ hd, Option.bind_some]
    unfold letters
    rw [List.all_cons]
    by_cases h1 : b ≥ 97
    · rw [if_pos h1]
      by_cases h2 : b ≤ 122
      · rw [if_pos h2, show decide (97 ≤ b ∧ b ≤ 122) = true from decide_eq_true ⟨h1, h2⟩]; rfl
      · rw [if_neg h2, show decide (97 ≤ b ∧ b ≤ 122) = false from decide_eq_false (by omega)]; rfl
    · rw [if_neg h1, show decide (97 ≤ b ∧ b ≤ 122) = false from decide_eq_false (by omega)]; rfl
theorem impl_KeyValid_f (s : ByteArray) : impl_KeyValid.fL s = some (keyOk (bs s)) := by
  rw [impl_KeyValid.fL_eq, impl_lettersOnly_f _ s rfl, Option.bind_some]
  unfold keyOk
  rw [bs_length]
  by_cases h1 : (s.size : Int) < 1
  · rw [if_pos h1, decide_eq_false (by omega)]; rfl
  · rw [if_neg h1]
    by_cases h2 : (s.size : Int) > 4
    · rw [if_pos h2, decide_eq_false (by omega)]; rfl
    · rw [if_neg h2, decide_eq_true (by omega)]; rfl
theorem keyOk_len {l : List Int} (h : keyOk l = true) : 1 ≤ l.length ∧ l.length ≤ 4 := by
  simp only [keyOk, Bool.and_eq_true, decide_eq_true_eq] at h; exact h.1
theorem keyOk_letters {l : List Int} (h : keyOk l = true) : letters l = true := by
  simp only [keyOk, Bool.and_eq_true, decide_eq_true_eq] at h; exact h.2
theorem letters_cons {b : Int} {l : List Int} (h : letters (b :: l) = true) : (97 ≤ b ∧ b ≤ 122) ∧ letters l = true := by
  simp only [letters, List.all_cons, Bool.and_eq_true, decide_eq_true_eq] at h
  exact ⟨h.1, by simp only [letters]; exact h.2⟩

/-! #### spec_l1In -/
theorem spec_l1In_f (a lo hi : Int) : spec_l1In.f a lo hi = some (decide (lo ≤ a ∧ a ≤ hi)) := by
  unfold spec_l1In.f
  by_cases h : a ≥ lo
  · rw [if_pos h]; congr 1; rw [decide_eq_decide]; omega
  · rw [if_neg h]; congr 1; rw [eq_comm, decide_eq_false_iff_not]; omega

/-! #### valueValid -/
theorem impl_valueValid_f (v : Int) : impl_valueValid.f v = some (decide (0 ≤ v ∧ v ≤ 999)) := by
  unfold impl_valueValid.f
  by_cases h : v ≥ 0
  · rw [if_pos h]; congr 1; rw [decide_eq_decide]; omega
  · rw [if_neg h]; congr 1; rw [eq_comm, decide_eq_false_iff_not]; omega

/-! #### spec_KeyValid -/
theorem spec_KeyValid_l0 (s : ByteArray) (hs : s.size ≤ 1000) : ∀ (ys : List Int) (i : Int), 0 ≤ i → i ≤ s.size → (bs s).drop i.toNat = ys → spec_KeyValid.l0L s i = some (letters ys)
  | [], i, h0, h1, hd => by
    have := drop_nil h0 (by rw [bs_length]; exact h1) hd
    rw [bs_length] at this
    rw [spec_KeyValid.l0L_eq, if_neg (by omega)]; rfl
  | y :: ys, i, h0, h1, hd => by
    obtain ⟨hr, hl, hd'⟩ := rd_drop h0 hd
    rw [bs_length] at hl
    rw [spec_KeyValid.l0L_eq, if_pos hl, if_pos h0, bt_bs, hr, w64 (by omega) (by omega)]
    unfold letters
    rw [List.all_cons]
    by_cases e1 : y < 97
    · rw [if_pos e1, decide_eq_false (by omega)]; rfl
    · rw [if_neg e1]
      by_cases e2 : y > 122
      · rw [if_pos e2, decide_eq_false (by omega)]; rfl
      · rw [if_neg e2, decide_eq_true (by omega), spec_KeyValid_l0 s hs ys (i + 1) (by omega) (by omega) hd']; rfl
theorem spec_KeyValid_f (s : ByteArray) : spec_KeyValid.fL s = some (keyOk (bs s)) := by
  rw [spec_KeyValid.fL_eq, spec_l1In_f, Option.bind_some]
  unfold keyOk
  rw [bs_length]
  by_cases h : 1 ≤ (s.size : Int) ∧ (s.size : Int) ≤ 4
  · rw [if_pos (by simpa using h), decide_eq_true (by omega), spec_KeyValid_l0 s (by omega) (bs s) 0 (by omega) (by omega) (by simp)]; rfl
  · rw [if_neg (by simpa using h), decide_eq_false (by omega)]; rfl

/-! #### pairs -/
def klt (a b : ByteArray) : Bool := Op.bytesLess a.toList b.toList
/-- A pair alone is valid. -/
def pairItem (y : S181) : Bool := keyOk (bs y.f0) && decide (0 ≤ y.f1 ∧ y.f1 ≤ 999)
/-- The key is greater than the one before, if there is one. -/
def above : Option ByteArray → ByteArray → Bool
  | none, _ => true
  | some q, k => klt q k
def pairsFrom : Option ByteArray → List S181 → Bool
  | _, [] => true
  | p, y :: ys => pairItem y && above p y.f0 && pairsFrom (some y.f0) ys
def pairsOk (l : List S181) : Bool := decide (l.length ≤ 48) && pairsFrom none l
theorem getD_cons {α : Type} {xs : List α} {d : α} {i : Int} {y : α} {ys : List α} (h0 : 0 ≤ i) (h : xs.drop i.toNat = y :: ys) : xs.getD i.toNat d = y ∧ i < xs.length ∧ xs.drop (i + 1).toNat = ys := by
  have h1 : i.toNat < xs.length := by
    by_cases e : i.toNat < xs.length
    · exact e
    · rw [List.drop_eq_nil_of_le (by omega)] at h; cases h
  rw [List.drop_eq_getElem_cons h1] at h
  injection h with ha hb
  refine ⟨?_, by omega, ?_⟩
  · rw [List.getD_eq_getElem?_getD, List.getElem?_eq_getElem h1]; exact ha
  · rw [show (i + 1).toNat = i.toNat + 1 by omega]; exact hb

/-! #### pairmap -/
theorem toList_eq {a b : ByteArray} : a.toList = b.toList ↔ a = b := by
  rw [toList_data, toList_data]
  exact ⟨fun h => ByteArray.ext (Array.toList_inj.mp h), fun h => by rw [h]⟩
/-- Where a key is or belongs: how many pairs stand before it. -/
def place (k : ByteArray) : List S181 → Nat
  | [] => 0
  | y :: ys => if klt y.f0 k = true then place k ys + 1 else 0
theorem place_le (k : ByteArray) : ∀ l, place k l ≤ l.length
  | [] => Nat.le_refl _
  | y :: ys => by
    have := place_le k ys
    simp only [place, List.length_cons]
    split <;> omega
/-- Is the key there? -/
def hit (k : ByteArray) (l : List S181) : Bool := decide (place k l < l.length ∧ (rd_T181 l (place k l : Int)).f0 = k)
theorem hit_lt {k : ByteArray} {l : List S181} (h : hit k l = true) : place k l < l.length := (of_decide_eq_true h).1
theorem hit_key {k : ByteArray} {l : List S181} (h : hit k l = true) : (rd_T181 l (place k l : Int)).f0 = k := (of_decide_eq_true h).2
def pairGet (l : List S181) (k : ByteArray) : Int := if pairsOk l = true then (if hit k l = true then (rd_T181 l (place k l : Int)).f1 else -1) else -1
def pairDrop (l : List S181) (k : ByteArray) : List S181 × Bool := if pairsOk l = true then (if hit k l = true then (l.take (place k l) ++ l.drop (place k l + 1), true) else (l, false)) else ([], false)
def pairPut (l : List S181) (k : ByteArray) (v : Int) : List S181 × Bool :=
  if pairsOk l = true ∧ keyOk (bs k) = true ∧ 0 ≤ v ∧ v ≤ 999 then
    (if hit k l = true then (l.take (place k l) ++ ⟨k, v⟩ :: l.drop (place k l + 1), true) else if 48 ≤ l.length then (l, false) else (l.take (place k l) ++ ⟨k, v⟩ :: l.drop (place k l), true))
  else ([], false)
theorem pairsOk_le {l : List S181} (h : pairsOk l = true) : l.length ≤ 48 := by
  simp only [pairsOk, Bool.and_eq_true, decide_eq_true_eq] at h; exact h.1
theorem pairPut_length (l : List S181) (k : ByteArray) (v : Int) : (pairPut l k v).1.length ≤ 48 := by
  unfold pairPut
  split
  · rename_i h
    have h1 := pairsOk_le h.1
    have h2 := place_le k l
    split
    · rename_i h3
      have := hit_lt h3
      simp; omega
    · split
      · exact h1
      · simp; omega
  · simp
theorem pairDrop_length (l : List S181) (k : ByteArray) : (pairDrop l k).1.length ≤ 48 := by
  unfold pairDrop
  split
  · rename_i h
    have h1 := pairsOk_le h
    split
    · simp; omega
    · exact h1
  · simp
theorem set_split {α : Type} (y : α) : ∀ (l : List α) (n : Nat), n < l.length → l.set n y = l.take n ++ y :: l.drop (n + 1)
  | [], n, h => by simp at h
  | x :: l, 0, h => by simp
  | x :: l, n + 1, h => by simp at h; simp [set_split y l n h]

/-! #### CommandValid -/
/-- A command is valid. -/
def cmdOk (k : Int) (s : ByteArray) (v o : Int) : Bool :=
  decide (1 ≤ k ∧ k ≤ 5) && (keyOk (bs s) || (decide (k = 5) && decide (s.toList = []))) &&
    (if k = 2 then decide (0 ≤ v ∧ v ≤ 999) && decide (o = 0) else if k = 4 then decide (0 ≤ v ∧ v ≤ 999) && decide (-1 ≤ o ∧ o ≤ 999) else decide (v = 0) && decide (o = 0))
theorem beq_dec (a b : Int) : (a == b) = decide (a = b) := by
  rw [Bool.eq_iff_iff]; simp
theorem bne_dec (l : List UInt8) : (l != []) = !decide (l = []) := by cases l <;> simp
theorem impl_CommandValid_f (k : Int) (s : ByteArray) (v o : Int) : impl_CommandValid.fL k s v o = some (cmdOk k s v o) := by
  have hj : impl_CommandValid.j1L false k s v o = some (if k = 2 then decide (0 ≤ v ∧ v ≤ 999) && decide (o = 0) else if k = 4 then decide (0 ≤ v ∧ v ≤ 999) && decide (-1 ≤ o ∧ o ≤ 999) else decide (v = 0) && decide (o = 0)) := by
    rw [impl_CommandValid.j1L_eq, if_neg (by simp), impl_valueValid_f, Option.bind_some, impl_valueValid_f, Option.bind_some]
    by_cases h2 : k = 2
    · rw [if_pos h2, if_pos h2]
      by_cases hv : 0 ≤ v ∧ v ≤ 999
      · rw [if_pos (by simpa using hv), decide_eq_true hv, beq_dec]; rfl
      · rw [if_neg (by simpa using hv), decide_eq_false hv]; rfl
    · rw [if_neg h2, if_neg h2]
      by_cases h4 : k = 4
      · rw [if_pos h4, if_pos h4, Option.bind_some]
        by_cases hv : 0 ≤ v ∧ v ≤ 999
        · rw [if_pos (by simpa using hv), decide_eq_true hv]
          by_cases ho : o = -1
          · rw [if_pos ho, decide_eq_true (by omega)]; rfl
          · rw [if_neg ho, Bool.true_and]; congr 1; rw [decide_eq_decide]; omega
        · rw [if_neg (by simpa using hv), decide_eq_false hv]; rfl
      · rw [if_neg h4, if_neg h4, beq_dec]
        by_cases hv : v = 0
        · rw [if_pos hv, decide_eq_true hv]; rfl
        · rw [if_neg hv, decide_eq_false hv]; rfl
  have ht : impl_CommandValid.j1L true k s v o = some false := by rw [impl_CommandValid.j1L_eq, if_pos rfl]
  rw [impl_CommandValid.fL_eq, impl_CommandValid.j0L_eq, impl_CommandValid.j0L_eq, impl_KeyValid_f, Option.bind_some, hj, ht, bne_dec]
  unfold cmdOk
  by_cases h1 : k < 1
  · rw [if_pos h1, if_pos rfl, decide_eq_false (p := 1 ≤ k ∧ k ≤ 5) (by omega)]; rfl
  · rw [if_neg h1]
    by_cases h5 : k > 5
    · rw [if_pos (by simpa using h5), decide_eq_false (p := 1 ≤ k ∧ k ≤ 5) (by omega)]; rfl
    · rw [if_neg (by simpa using h5), decide_eq_true (p := 1 ≤ k ∧ k ≤ 5) (by omega)]
      cases hk : keyOk (bs s) with
      | true => rw [if_pos rfl]; simp
      | false =>
        rw [if_neg (by simp)]
        by_cases h : k = 5
        · rw [if_pos h]
          by_cases hs : s.toList = []
          · rw [decide_eq_true hs, decide_eq_true h, Bool.not_true, hj]; simp
          · rw [decide_eq_false hs, Bool.not_false, ht]; simp
        · rw [if_neg h, decide_eq_false h]; simp

/-! #### timeValid -/
theorem impl_timeValid_f (t : Int) : impl_timeValid.f t = some (decide (0 ≤ t ∧ t ≤ 200)) := by
  unfold impl_timeValid.f
  by_cases h : t ≥ 0
  · rw [if_pos h]; congr 1; rw [decide_eq_decide]; omega
  · rw [if_neg h]; congr 1; rw [eq_comm, decide_eq_false_iff_not]; omega

/-! #### ResultValid -/
def resOk (x : S32) : Bool :=
  decide (1 ≤ x.f0 ∧ x.f0 ≤ 3) && decide (1 ≤ x.f1 ∧ x.f1 ≤ 999) && cmdOk x.f2.f0 x.f2.f1 x.f2.f2 x.f2.f3 && decide (¬ x.f2.f0 = 5) && decide (-4 ≤ x.f3 ∧ x.f3 ≤ 999) && decide (0 ≤ x.f5 ∧ x.f5 ≤ 200) && decide (0 ≤ x.f4 ∧ x.f4 ≤ x.f5)
theorem range_ge (a lo hi : Int) : (if a ≥ lo then some (decide (a ≤ hi)) else some false) = some (decide (lo ≤ a ∧ a ≤ hi)) := by
  by_cases h : a ≥ lo
  · rw [if_pos h]; congr 1; rw [decide_eq_decide]; omega
  · rw [if_neg h]; congr 1; rw [eq_comm, decide_eq_false_iff_not]; omega
theorem range_lt (a lo hi : Int) : (if a ≥ lo then some (decide (a < hi + 1)) else some false) = some (decide (lo ≤ a ∧ a ≤ hi)) := by
  by_cases h : a ≥ lo
  · rw [if_pos h]; congr 1; rw [decide_eq_decide]; omega
  · rw [if_neg h]; congr 1; rw [eq_comm, decide_eq_false_iff_not]; omega
theorem ite_and (a b : Bool) : (if a = true then some b else some false) = some (a && b) := by cases a <;> rfl
theorem impl_clientNumber_f (a : Int) : impl_clientNumber.f a = some (decide (1 ≤ a ∧ a ≤ 3)) := by unfold impl_clientNumber.f; exact range_lt a 1 3
theorem impl_seqValid_f (a : Int) : impl_seqValid.f a = some (decide (1 ≤ a ∧ a ≤ 999)) := by unfold impl_seqValid.f; exact range_ge a 1 999
theorem impl_replyValid_f (a : Int) : impl_replyValid.f a = some (decide (-4 ≤ a ∧ a ≤ 999)) := by unfold impl_replyValid.f; exact range_ge a (-4) 999
theorem bne5 (k : Int) : (k != 5) = decide (¬ k = 5) := by rw [Bool.eq_iff_iff]; simp
theorem impl_wishValid_f (k : Int) (s : ByteArray) (v o : Int) : impl_wishValid.fL k s v o = some (cmdOk k s v o && decide (¬ k = 5)) := by
  rw [impl_wishValid.fL_eq, impl_CommandValid_f, Option.bind_some, ite_and, bne5]
theorem impl_ResultValid_f (x : S32) : impl_ResultValid.fL x.f0 x.f1 x.f2.f0 x.f2.f1 x.f2.f2 x.f2.f3 x.f3 x.f4 x.f5 = some (resOk x) := by
  rw [impl_ResultValid.fL_eq, impl_clientNumber_f, impl_seqValid_f, impl_wishValid_f, impl_replyValid_f, impl_timeValid_f]
  simp only [Option.bind_some, range_ge, ite_and, resOk, Bool.and_assoc]

/-! #### History -/
/-- An answer is valid and no seal's. -/
def ansOk (a : S120) : Bool := decide (0 ≤ a.f0.f0 ∧ a.f0.f0 ≤ 3) && decide (1 ≤ a.f0.f1 ∧ a.f0.f1 ≤ 999) && cmdOk a.f0.f2.f0 a.f0.f2.f1 a.f0.f2.f2 a.f0.f2.f3 && decide (¬ a.f0.f2.f0 = 5)
/-- The map after answers; nothing if a reply is not right. -/
def runHist : List S181 → List S120 → List S181 × Bool
  | l, [] => (l, true)
  | l, a :: r =>
    if a.f1 = -2 then runHist l r
    else if a.f1 = pairGet l a.f0.f2.f1 then
      (if a.f0.f2.f0 = 3 then runHist (pairDrop l a.f0.f2.f1).1 r
       else if a.f0.f2.f0 = 2 ∨ (a.f0.f2.f0 = 4 ∧ a.f0.f2.f3 = pairGet l a.f0.f2.f1) then (if (pairPut l a.f0.f2.f1 a.f0.f2.f2).2 = true then runHist (pairPut l a.f0.f2.f1 a.f0.f2.f2).1 r else ([], false))
       else runHist l r)
    else ([], false)
def runHistory (l : List S120) : List S181 × Bool := if decide (l.length ≤ 200) && l.all ansOk then runHist [] l else ([], false)
theorem ansOk_kind {a : S120} (h : ansOk a = true) : 1 ≤ a.f0.f2.f0 ∧ a.f0.f2.f0 ≤ 4 := by
  simp only [ansOk, cmdOk, Bool.and_eq_true, decide_eq_true_eq] at h
  omega

/-! #### resultsValid -/
theorem getD_res {α : Type} {xs : List α} {d : α} {i : Int} {y : α} {ys : List α} (h0 : 0 ≤ i) (h : xs.drop i.toNat = y :: ys) : xs.getD i.toNat d = y ∧ i < xs.length ∧ xs.drop (i + 1).toNat = ys := by
  have h1 : i.toNat < xs.length := by
    by_cases e : i.toNat < xs.length
    · exact e
    · rw [List.drop_eq_nil_of_le (by omega)] at h; cases h
  rw [List.drop_eq_getElem_cons h1] at h
  injection h with ha hb
  refine ⟨?_, by omega, ?_⟩
  · rw [List.getD_eq_getElem?_getD, List.getElem?_eq_getElem h1]; exact ha
  · rw [show (i + 1).toNat = i.toNat + 1 by omega]; exact hb
theorem impl_resultsValid_l0 (xs : List S32) (hx : xs.length ≤ 5) : ∀ (ys : List S32) (i : Int), 0 ≤ i → i ≤ xs.length → xs.drop i.toNat = ys → impl_resultsValid.l0L xs (xs.length : Int) i = some (ys.all resOk)
  | [], i, h0, h1, hd => by
    have := drop_nil h0 h1 hd
    rw [impl_resultsValid.l0L_eq, if_neg (by omega)]; rfl
  | y :: ys, i, h0, h1, hd => by
    obtain ⟨hr0, hl, hd'⟩ := getD_res (d := z32) h0 hd
    have hr : rd_T32 xs i = y := hr0
    rw [impl_resultsValid.l0L_eq, if_pos hl, if_pos h0, if_pos hl, hr, impl_ResultValid_f, Option.bind_some, w64 (by omega) (by omega), impl_resultsValid_l0 xs hx ys (i + 1) (by omega) (by omega) hd', List.all_cons]
    cases resOk y <;> rfl
theorem impl_resultsValid_f (xs : List S32) : impl_resultsValid.fL xs = some (decide (xs.length ≤ 5) && xs.all resOk) := by
  rw [impl_resultsValid.fL_eq]
  by_cases h : (xs.length : Int) > 5
  · rw [if_pos h, decide_eq_false (by omega)]; rfl
  · rw [if_neg h, decide_eq_true (by omega), impl_resultsValid_l0 xs (by omega) xs 0 (by omega) (by omega) (by simp)]; rfl

/-! #### index_int -/
/-- Where v is first, from an index on; -1 if nowhere. -/
def idx (v : Int) : List Int → Int → Int
  | [], _ => -1
  | y :: ys, i => if v = y then i else idx v ys (i + 1)
theorem slices_Index_l0 (xs : List Int) (v : Int) (hx : xs.length ≤ 1000000000000000) : ∀ (ys : List Int) (i : Int), 0 ≤ i → i ≤ xs.length → xs.drop i.toNat = ys → slices_Index_int_int.l0L xs v (xs.length : Int) i = some (idx v ys i)
  | [], i, h0, h1, hd => by
    have := drop_nil h0 h1 hd
    rw [slices_Index_int_int.l0L_eq, if_neg (by omega)]; rfl
  | y :: ys, i, h0, h1, hd => by
    obtain ⟨hr, hl, hd'⟩ := rd_drop h0 hd
    rw [slices_Index_int_int.l0L_eq, if_pos hl, if_pos h0, if_pos hl, hr, w64 (by omega) (by omega)]
    simp only [idx]
    by_cases e : v = y
    · rw [if_pos e, if_pos e]
    · rw [if_neg e, if_neg e]; exact slices_Index_l0 xs v hx ys (i + 1) (by omega) (by omega) hd'
theorem slices_Index_f (xs : List Int) (v : Int) (hx : xs.length ≤ 1000000000000000) : slices_Index_int_int.fL xs v = some (idx v xs 0) := by
  rw [slices_Index_int_int.fL_eq]; exact slices_Index_l0 xs v hx xs 0 (by omega) (by omega) (by simp)
theorem idx_ge (v : Int) : ∀ (ys : List Int) (i : Int), 0 ≤ i → (idx v ys i ≥ 0 ↔ v ∈ ys)
  | [], i, _ => by simp [idx]
  | y :: ys, i, h => by
    have ih := idx_ge v ys (i + 1) (by omega)
    simp only [idx, List.mem_cons]
    by_cases e : v = y
    · rw [if_pos e]; simp [e, h]
    · rw [if_neg e, ih]; simp [e]
theorem slices_Contains_f (xs : List Int) (v : Int) (hx : xs.length ≤ 1000000000000000) : slices_Contains_int_int.fL xs v = some (decide (v ∈ xs)) := by
  rw [slices_Contains_int_int.fL_eq, slices_Index_f xs v hx, Option.bind_some]
  congr 1
  rw [decide_eq_decide]
  exact idx_ge v xs 0 (by omega)

/-! #### OrderValid -/
/-- The rest of an order is right, behind what was before. -/
def okFrom (many : Int) : List Int → List Int → Bool
  | _, [] => true
  | pre, y :: ys => decide (0 ≤ y ∧ y < many) && !decide (y ∈ pre) && okFrom many (pre ++ [y]) ys
def orderOk (many : Int) (l : List Int) : Bool := decide (l.length ≤ 5 ∧ (l.length : Int) = many) && okFrom many [] l
theorem take_snoc_drop {α : Type} {xs : List α} {i : Nat} {y : α} {ys : List α} (h : xs.drop i = y :: ys) : xs.take (i + 1) = xs.take i ++ [y] := by
  have h1 : i < xs.length := by
    by_cases e : i < xs.length
    · exact e
    · rw [List.drop_eq_nil_of_le (by omega)] at h; cases h
  rw [List.drop_eq_getElem_cons h1] at h
  injection h with ha hb
  rw [List.take_succ_eq_append_getElem h1, ha]
theorem impl_OrderValid_l0 (many : Int) (xs : List Int) (hx : xs.length ≤ 5) : ∀ (ys : List Int) (i : Int), 0 ≤ i → i ≤ xs.length → xs.drop i.toNat = ys → impl_OrderValid.l0L many xs xs (xs.length : Int) i = some (okFrom many (xs.take i.toNat) ys)
  | [], i, h0, h1, hd => by
    have := drop_nil h0 h1 hd
    rw [impl_OrderValid.l0L_eq, if_neg (by omega)]; rfl
  | y :: ys, i, h0, h1, hd => by
    obtain ⟨hr, hl, hd'⟩ := rd_drop h0 hd
    have ht := take_snoc_drop hd
    have hle : i ≤ (xs.length : Int) := h1
    rw [impl_OrderValid.l0L_eq, if_pos hl, if_pos h0, if_pos hl, hr, if_pos hle, slices_Contains_f _ _ (by rw [List.length_take]; omega), Option.bind_some, w64 (by omega) (by omega)]
    simp only [okFrom]
    by_cases e1 : y < 0
    · rw [if_pos e1, decide_eq_false (p := 0 ≤ y ∧ y < many) (by omega)]; rfl
    · rw [if_neg e1]
      by_cases e2 : y ≥ many
      · rw [if_pos e2, decide_eq_false (p := 0 ≤ y ∧ y < many) (by omega)]; rfl
      · rw [if_neg e2, decide_eq_true (p := 0 ≤ y ∧ y < many) (by omega)]
        by_cases e3 : y ∈ xs.take i.toNat
        · rw [decide_eq_true e3, if_pos rfl]; rfl
        · rw [decide_eq_false e3, if_neg (by simp), impl_OrderValid_l0 many xs hx ys (i + 1) (by omega) (by omega) hd', show (i + 1).toNat = i.toNat + 1 by omega, ht]; rfl
theorem impl_OrderValid_f (many : Int) (xs : List Int) : impl_OrderValid.fL many xs = some (orderOk many xs) := by
  rw [impl_OrderValid.fL_eq, impl_OrderValid.j0L_eq, impl_OrderValid.j0L_eq]
  unfold orderOk
  by_cases h1 : (xs.length : Int) > 5
  · rw [if_pos h1, if_pos rfl, decide_eq_false (by omega)]; rfl
  · rw [if_neg h1]
    by_cases h2 : (xs.length : Int) = many
    · rw [if_neg (by simpa using h2), decide_eq_true (by omega), impl_OrderValid_l0 many xs (by omega) xs 0 (by omega) (by omega) (by simp)]; rfl
    · rw [if_pos (by simpa using h2), decide_eq_false (by omega)]; rfl
theorem spec_OrderValid_l1 (many : Int) (xs : List Int) (hx : xs.length ≤ 5) (k y : Int) (h0 : 0 ≤ k) (hk : k < xs.length) (hy : rd xs k = y) : ∀ (zs : List Int) (j : Int), 0 ≤ j → j ≤ k → (xs.take k.toNat).drop j.toNat = zs → spec_OrderValid.l1L many xs k j = if y ∈ zs then some false else spec_OrderValid.l0L many xs (k + 1)
  | [], j, h1, h2, hd => by
    have hl : (xs.take k.toNat).length = k.toNat := by rw [List.length_take]; omega
    have := drop_nil h1 (by omega) hd
    rw [spec_OrderValid.l1L_eq, if_neg (by omega), w64 (by omega) (by omega), if_neg (by simp)]
  | z :: zs, j, h1, h2, hd => by
    have hl : (xs.take k.toNat).length = k.toNat := by rw [List.length_take]; omega
    obtain ⟨hr, hlt, hd'⟩ := rd_drop h1 hd
    have hr' : rd xs j = z := by
      rw [← hr]; unfold rd
      rw [List.getD_eq_getElem?_getD, List.getD_eq_getElem?_getD, List.getElem?_take, if_pos (by omega)]
    rw [spec_OrderValid.l1L_eq, if_pos (by omega), if_pos h1, if_pos (by omega), if_pos h0, if_pos hk, hr', hy, w64 (by omega) (by omega)]
    by_cases e : z = y
    · rw [if_pos e, if_pos (by simp [e])]
    · rw [if_neg e, spec_OrderValid_l1 many xs hx k y h0 hk hy zs (j + 1) (by omega) (by omega) hd']
      have e' : ¬ y = z := fun h => e h.symm
      simp [e']
theorem spec_OrderValid_l0 (many : Int) (hm : many ≤ 5) (hm0 : 0 ≤ many) (xs : List Int) (hx : xs.length ≤ 5) : ∀ (ys : List Int) (i : Int), 0 ≤ i → i ≤ xs.length → xs.drop i.toNat = ys → spec_OrderValid.l0L many xs i = some (okFrom many (xs.take i.toNat) ys)
  | [], i, h0, h1, hd => by
    have := drop_nil h0 h1 hd
    rw [spec_OrderValid.l0L_eq, if_neg (by omega)]; rfl
  | y :: ys, i, h0, h1, hd => by
    obtain ⟨hr, hl, hd'⟩ := rd_drop h0 hd
    have ht := take_snoc_drop hd
    rw [spec_OrderValid.l0L_eq, if_pos hl, if_pos h0, hr, spec_l1In_f, Option.bind_some, w64 (by omega) (by omega)]
    simp only [okFrom]
    by_cases e1 : 0 ≤ y ∧ y < many
    · rw [if_pos (by simp; omega), decide_eq_true e1, spec_OrderValid_l1 many xs hx i y h0 hl hr (xs.take i.toNat) 0 (by omega) h0 (by simp), spec_OrderValid_l0 many hm hm0 xs hx ys (i + 1) (by omega) (by omega) hd', show (i + 1).toNat = i.toNat + 1 by omega, ht]
      by_cases e3 : y ∈ xs.take i.toNat
      · rw [decide_eq_true e3, if_pos e3]; rfl
      · rw [decide_eq_false e3, if_neg e3]; rfl
    · rw [if_neg (by simp; omega), decide_eq_false e1]; rfl
theorem spec_OrderValid_f (many : Int) (xs : List Int) : spec_OrderValid.fL many xs = some (orderOk many xs) := by
  rw [spec_OrderValid.fL_eq, spec_OrderValid.j0L_eq, spec_OrderValid.j0L_eq]
  unfold orderOk
  by_cases h1 : many > 5
  · rw [if_pos h1, if_pos rfl, decide_eq_false (by omega)]; rfl
  · rw [if_neg h1]
    by_cases h2 : (xs.length : Int) = many
    · rw [if_neg (by simpa using h2), decide_eq_true (by omega), spec_OrderValid_l0 many (by omega) (by omega) xs (by omega) xs 0 (by omega) (by omega) (by simp)]; rfl
    · rw [if_pos (by simpa using h2), decide_eq_false (by omega)]; rfl
theorem okFrom_iff (many : Int) : ∀ (ys pre : List Int), okFrom many pre ys = true ↔ (∀ y ∈ ys, 0 ≤ y ∧ y < many) ∧ ys.Nodup ∧ ∀ y ∈ ys, y ∉ pre
  | [], pre => by simp [okFrom]
  | y :: ys, pre => by
    simp only [okFrom, Bool.and_eq_true, decide_eq_true_eq, Bool.not_eq_true', decide_eq_false_iff_not, okFrom_iff many ys, List.mem_cons, List.nodup_cons, List.mem_append, List.not_mem_nil, or_false]
    constructor
    · rintro ⟨⟨h1, h2⟩, h3, h4, h5⟩
      refine ⟨?_, ⟨?_, h4⟩, ?_⟩
      · rintro z (rfl | hz)
        · exact h1
        · exact h3 z hz
      · exact fun hm => (h5 y hm) (.inr rfl)
      · rintro z (rfl | hz)
        · exact h2
        · exact fun hp => h5 z hz (.inl hp)
    · rintro ⟨h1, ⟨h2, h3⟩, h4⟩
      refine ⟨⟨h1 y (.inl rfl), h4 y (.inl rfl)⟩, fun z hz => h1 z (.inr hz), h3, ?_⟩
      rintro z hz (hp | rfl)
      · exact h4 z (.inr hz) hp
      · exact h2 hz
theorem orderOk_iff (many : Int) (l : List Int) : orderOk many l = true ↔ l.length ≤ 5 ∧ (l.length : Int) = many ∧ (∀ y ∈ l, 0 ≤ y ∧ y < many) ∧ l.Nodup := by
  unfold orderOk
  rw [Bool.and_eq_true, decide_eq_true_eq, okFrom_iff]
  simp [and_assoc]

/-! #### orderAll -/
theorem nodup_len : ∀ (m : Nat) (l : List Int), l.Nodup → (∀ x ∈ l, 0 ≤ x ∧ x < m) → l.length ≤ m
  | 0, l, _, h => by
    cases l with
    | nil => simp
    | cons x l => have := h x List.mem_cons_self; omega
  | m + 1, l, hn, h => by
    have h1 := nodup_len m (l.erase (m : Int)) (hn.erase _) (fun x hx => by
      have := (List.Nodup.mem_erase_iff hn).1 hx
      have := h x this.2
      omega)
    rw [List.length_erase] at h1
    split at h1 <;> omega
theorem order_all {n : Nat} {o : List Int} (h : orderOk n o = true) (i : Int) (h0 : 0 ≤ i) (h1 : i < n) : i ∈ o := by
  obtain ⟨_, hl, hr, hn⟩ := (orderOk_iff _ _).1 h
  by_cases e : i ∈ o
  · exact e
  · have := nodup_len n (i :: o) (List.nodup_cons.2 ⟨e, hn⟩) (fun x hx => by
      rcases List.mem_cons.1 hx with rfl | hx
      · exact ⟨h0, h1⟩
      · exact hr x hx)
    simp at this
    omega
theorem all_over {xs : List S32} {o : List Int} (h : orderOk xs.length o = true) : (o.all fun i => resOk (rd_T32 xs i)) = xs.all resOk := by
  rw [Bool.eq_iff_iff, List.all_eq_true, List.all_eq_true]
  have hr := ((orderOk_iff _ _).1 h).2.2.1
  constructor
  · intro ha x hx
    obtain ⟨i, hi, rfl⟩ := List.getElem_of_mem hx
    have := ha i (order_all h i (by omega) (by omega))
    unfold rd_T32 at this
    rw [List.getD_eq_getElem?_getD, Int.toNat_natCast, List.getElem?_eq_getElem hi] at this
    exact this
  · intro ha i hi
    have := hr i hi
    refine ha _ ?_
    unfold rd_T32
    rw [List.getD_eq_getElem?_getD, List.getElem?_eq_getElem (show i.toNat < xs.length by omega)]
    exact List.getElem_mem _

/-! #### RepliesRight -/
def ansOf (x : S32) : S120 := ⟨⟨x.f0, x.f1, ⟨x.f2.f0, x.f2.f1, x.f2.f2, x.f2.f3⟩⟩, x.f3⟩
def answers (xs : List S32) (o : List Int) : List S120 := o.map fun i => ansOf (rd_T32 xs i)
def repliesRight (xs : List S32) (o : List Int) : Bool := decide (xs.length ≤ 5) && xs.all resOk && orderOk xs.length o && (runHistory (answers xs o)).2

/-! #### bless -/
theorem bless_irrefl : ∀ x : List UInt8, Op.bytesLess x x = false
  | [] => by simp [Op.bytesLess]
  | a :: x => by simp [Op.bytesLess, bless_irrefl x, UInt8.lt_irrefl]
theorem bless_total : ∀ x y : List UInt8, Op.bytesLess x y = false → Op.bytesLess y x = false → x = y
  | [], [], _, _ => rfl
  | [], b :: y, h, _ => by simp [Op.bytesLess] at h
  | a :: x, [], _, h => by simp [Op.bytesLess] at h
  | a :: x, b :: y, h, h2 => by
    simp only [Op.bytesLess, Bool.or_eq_false_iff, decide_eq_false_iff_not, Bool.and_eq_false_iff] at h h2
    have e : a = b := by
      apply UInt8.toNat_inj.1
      have h1 : ¬ a.toNat < b.toNat := fun c => h.1 (UInt8.lt_iff_toNat_lt.2 c)
      have h3 : ¬ b.toNat < a.toNat := fun c => h2.1 (UInt8.lt_iff_toNat_lt.2 c)
      omega
    subst e
    have hx : Op.bytesLess x y = false := by rcases h.2 with h | h; · simp at h
                                             · exact h
    have hy : Op.bytesLess y x = false := by rcases h2.2 with h | h; · simp at h
                                             · exact h
    rw [bless_total x y hx hy]
theorem bless_trans : ∀ x y z : List UInt8, Op.bytesLess x y = true → Op.bytesLess y z = true → Op.bytesLess x z = true
  | [], _, [], h, h2 => by cases h2' : Op.bytesLess ([] : List UInt8) [] <;> simp_all [Op.bytesLess]
  | [], _, c :: z, _, _ => by simp [Op.bytesLess]
  | a :: x, [], _, h, _ => by simp [Op.bytesLess] at h
  | a :: x, b :: y, [], _, h => by simp [Op.bytesLess] at h
  | a :: x, b :: y, c :: z, h, h2 => by
    simp only [Op.bytesLess, Bool.or_eq_true, decide_eq_true_eq, Bool.and_eq_true, beq_iff_eq] at h h2 ⊢
    simp only [UInt8.lt_iff_toNat_lt] at h h2 ⊢
    rcases h with h | ⟨e, h⟩
    · rcases h2 with h2 | ⟨e2, h2⟩
      · left; omega
      · left; subst e2; exact h
    · rcases h2 with h2 | ⟨e2, h2⟩
      · left; subst e; exact h2
      · right; exact ⟨e.trans e2, bless_trans x y z h h2⟩

/-! #### impl_pairmap -/
theorem cmp_Compare_f (a b : ByteArray) : cmp_Compare_string.f a b = some (if klt a b = true then -1 else if klt b a = true then 1 else 0) := by
  have h : ∀ s : ByteArray, cmp_isNaN_string.f s = some false := fun s => by unfold cmp_isNaN_string.f; simp
  unfold cmp_Compare_string.f klt
  rw [h, h]
  simp only [Option.bind_some, Bool.false_eq_true, if_false]
  split
  · rfl
  · split <;> rfl
theorem impl_pairPlace1_f (a : ByteArray) (v : Int) (b : ByteArray) : impl_pairPlace_1.f a v b = some (if klt a b = true then -1 else if klt b a = true then 1 else 0) := by
  unfold impl_pairPlace_1.f
  rw [cmp_Compare_f]; rfl
theorem klt_trans {a b c : ByteArray} (h : klt a b = true) (h2 : klt b c = true) : klt a c = true := bless_trans _ _ _ h h2
theorem klt_irrefl (a : ByteArray) : klt a a = false := bless_irrefl _
theorem klt_total {a b : ByteArray} (h : klt a b = false) (h2 : klt b a = false) : a = b := toList_eq.1 (bless_total _ _ h h2)
/-- All keys of a list that ascend from p on are greater than p's. -/
theorem pairsFrom_all : ∀ (l : List S181) (p : ByteArray), pairsFrom (some p) l = true → ∀ y ∈ l, klt p y.f0 = true
  | [], p, _, y, hy => by cases hy
  | x :: xs, p, h, y, hy => by
    simp only [pairsFrom, Bool.and_eq_true] at h
    have hx : klt p x.f0 = true := h.1.2
    rcases List.mem_cons.1 hy with rfl | hy
    · exact hx
    · exact klt_trans hx (pairsFrom_all xs x.f0 h.2 y hy)
/-- In a list that ascends: before the place keys are less, behind it they are not. -/
theorem place_split (k : ByteArray) : ∀ (l : List S181) (p : Option ByteArray), pairsFrom p l = true → ∀ (i : Nat) (h : i < l.length), klt (l[i]).f0 k = decide (i < place k l)
  | [], p, _, i, h => by simp at h
  | x :: xs, p, hp, i, h => by
    simp only [pairsFrom, Bool.and_eq_true] at hp
    have ha := pairsFrom_all xs x.f0 hp.2
    by_cases e : klt x.f0 k = true
    · simp only [place, if_pos e]
      cases i with
      | zero => simpa using e
      | succ i =>
        have := place_split k xs _ hp.2 i (by simpa using h)
        simp only [List.getElem_cons_succ, this, decide_eq_decide]
        omega
    · simp only [place, if_neg e]
      cases i with
      | zero => simpa using e
      | succ i =>
        simp only [List.getElem_cons_succ, Nat.not_lt_zero, decide_false]
        cases hb : klt (xs[i]'(by simpa using h)).f0 k with
        | false => rfl
        | true => exact absurd (klt_trans (ha _ (List.getElem_mem _)) hb) e
theorem rd_getElem (l : List S181) (i : Int) (h : i.toNat < l.length) : rd_T181 l i = l[i.toNat] := by
  unfold rd_T181
  rw [List.getD_eq_getElem?_getD, List.getElem?_eq_getElem h]; rfl
theorem half_ (a b : Int) (ha : 0 ≤ a) (hb : 0 ≤ b) (ha2 : a ≤ 1000000) (hb2 : b ≤ 1000000) : wrap64 (IntKind.u64.wrap (wrap64 (a + b)) / 2) = (a + b) / 2 := by
  have e : IntKind.u64.wrap (a + b) = a + b := by
    simp only [IntKind.wrap, IntKind.signed, IntKind.bits, Bool.false_and, Bool.false_eq_true, if_false]
    omega
  rw [w64 (n := a + b) (by omega) (by omega), e, w64 (by omega) (by omega)]
theorem impl_search_l0 (xs : List S181) (k : ByteArray) (hok : pairsOk xs = true) : ∀ (n : Nat) (i j : Int), j - i ≤ n → 0 ≤ i → i ≤ (place k xs : Int) → (place k xs : Int) ≤ j → j ≤ xs.length →
    impl_Pair_string.l0L xs k (xs.length : Int) i j = some ((place k xs : Int), hit k xs)
  | n, i, j, hn, h0, hi, hj, hl => by
    have h48 := pairsOk_le hok
    have hp := place_le k xs
    rw [impl_Pair_string.l0L_eq]
    by_cases e : i < j
    · match n with
      | 0 => omega
      | n + 1 =>
        have hr := rd_getElem xs ((i + j) / 2) (by omega)
        have hs := place_split k xs none (by simp only [pairsOk, Bool.and_eq_true, decide_eq_true_eq] at hok; exact hok.2) ((i + j) / 2).toNat (by omega)
        rw [if_pos e, half_ i j (by omega) (by omega) (by omega) (by omega), if_pos (by omega), if_pos (by omega), impl_pairPlace1_f, Option.bind_some, hr, hs]
        by_cases c : ((i + j) / 2).toNat < place k xs
        · rw [decide_eq_true c, if_pos rfl, if_pos (by omega), w64 (by omega) (by omega)]
          exact impl_search_l0 xs k hok n _ j (by omega) (by omega) (by omega) hj hl
        · rw [decide_eq_false c, if_neg (show ¬ (false = true) by simp)]
          have c2 : ¬ (if klt k (xs[((i + j) / 2).toNat]'(by omega)).f0 = true then (1 : Int) else 0) < 0 := by split <;> omega
          rw [if_neg c2]
          exact impl_search_l0 xs k hok n i _ (by omega) h0 hi (by omega) (by omega)
    · have hij : i = (place k xs : Int) := by omega
      rw [if_neg e, hij]
      by_cases c : (place k xs : Int) < (xs.length : Int)
      · have hr := rd_getElem xs (place k xs : Int) (by omega)
        have hs := place_split k xs none (by simp only [pairsOk, Bool.and_eq_true, decide_eq_true_eq] at hok; exact hok.2) (place k xs) (by omega)
        rw [if_pos c, if_pos (by omega), if_pos c, impl_pairPlace1_f, Option.bind_some]
        have hrd : rd_T181 xs (place k xs : Int) = xs[place k xs]'(by omega) := by rw [hr]; rfl
        rw [hrd, hs, decide_eq_false (by omega), if_neg (show ¬ (false = true) by simp)]
        have : hit k xs = ((if klt k (xs[place k xs]'(by omega)).f0 = true then (1 : Int) else 0) == 0) := by
          unfold hit
          rw [hrd]
          cases hb : klt k (xs[place k xs]'(by omega)).f0 with
          | true =>
            rw [if_pos rfl, decide_eq_false]
            · rfl
            · rintro ⟨_, he⟩; rw [he, klt_irrefl] at hb; cases hb
          | false =>
            rw [if_neg (by simp), decide_eq_true ⟨by omega, klt_total (by rw [hs]; simp) hb⟩]; rfl
        rw [this]
      · rw [if_neg c]
        have : hit k xs = false := by unfold hit; rw [decide_eq_false (fun h => c (by omega))]
        rw [this]
theorem impl_pairPlace_f (xs : List S181) (k : ByteArray) (hok : pairsOk xs = true) : impl_pairPlace.fL xs k = some ((place k xs : Int), hit k xs) := by
  have hp := place_le k xs
  rw [impl_pairPlace.fL_eq, impl_Pair_string.fL_eq, impl_search_l0 xs k hok xs.length 0 (xs.length : Int) (by omega) (by omega) (by omega) (by omega) (by omega), Option.bind_some]

/-! #### impl_PairsValid -/
theorem impl_PairsValid_l0 (xs : List S181) (hx : xs.length ≤ 48) : ∀ (ys : List S181) (i : Int) (p : Option ByteArray), 0 ≤ i → i ≤ xs.length → xs.drop i.toNat = ys → (i = 0 → p = none) → (0 < i → p = some (rd_T181 xs (i - 1)).f0) → impl_PairsValid.l0L xs xs (xs.length : Int) i = some (pairsFrom p ys)
  | [], i, p, h0, h1, hd, hp0, hp1 => by
    have := drop_nil h0 h1 hd
    rw [impl_PairsValid.l0L_eq, if_neg (by omega)]; rfl
  | y :: ys, i, p, h0, h1, hd, hp0, hp1 => by
    obtain ⟨hr0, hl, hd'⟩ := getD_cons (d := z181) h0 hd
    have hr : rd_T181 xs i = y := hr0
    have hnext := impl_PairsValid_l0 xs hx ys (i + 1) (some y.f0) (by omega) (by omega) hd' (fun h => by omega) (fun _ => by rw [show i + 1 - 1 = i by omega, hr])
    rw [impl_PairsValid.l0L_eq, if_pos hl, if_pos h0, if_pos hl, hr, impl_KeyValid_f, Option.bind_some, impl_valueValid_f, Option.bind_some]
    simp only [impl_PairsValid.j1L_eq, w64 (n := i - 1) (by omega) (by omega), w64 (n := i + 1) (by omega) (by omega), if_true, pairsFrom, pairItem]
    cases hk : keyOk (bs y.f0) with
    | false => simp
    | true =>
      by_cases hv : 0 ≤ y.f1 ∧ y.f1 ≤ 999
      · rw [decide_eq_true hv]
        by_cases hi : i > 0
        · rw [if_pos rfl, if_neg (by simp), if_pos hi, if_pos (by omega), if_pos (by omega), hp1 hi, hnext]
          simp only [above, klt]
          cases Op.bytesLess (rd_T181 xs (i - 1)).f0.toList y.f0.toList <;> simp
        · rw [if_pos rfl, if_neg (by simp), if_neg hi, hp0 (by omega), hnext]
          simp [above]
      · rw [decide_eq_false hv]; simp
theorem impl_PairsValid_f (xs : List S181) : impl_PairsValid.fL xs = some (pairsOk xs) := by
  rw [impl_PairsValid.fL_eq]
  unfold pairsOk
  by_cases h : (xs.length : Int) > 48
  · rw [if_pos h, decide_eq_false (by omega)]; rfl
  · rw [if_neg h, decide_eq_true (by omega), impl_PairsValid_l0 xs (by omega) xs 0 none (by omega) (by omega) (by simp) (fun _ => rfl) (fun h => by omega)]; rfl

/-! #### impl_PairGet -/
theorem impl_PairGet_f (xs : List S181) (k : ByteArray) : impl_PairGet.fL xs k = some (pairGet xs k) := by
  rw [impl_PairGet.fL_eq, impl_PairsValid_f, Option.bind_some]
  unfold pairGet
  by_cases h1 : pairsOk xs = true
  · rw [if_pos h1, if_pos h1, impl_pairPlace_f xs k h1, Option.bind_some]
    dsimp only
    by_cases h : hit k xs = true
    · have := hit_lt h
      rw [if_pos h, if_pos (by omega), if_pos (by omega), if_pos h]
    · rw [if_neg h, if_neg h]
  · rw [if_neg h1, if_neg h1]

/-! #### impl_copyPairs -/
theorem impl_copyOf_f (xs : List S181) (hx : xs.length ≤ 1000000000000) : impl_Pair_126.f xs = some xs := by
  unfold impl_Pair_126.f
  rw [if_pos (by simp; omega)]; simp

/-! #### impl_replacedPairs -/
theorem impl_replaced_f (xs ys : List S181) (i m : Nat) (hi : i + m ≤ xs.length) (hx : xs.length ≤ 1000000) (hy : ys.length ≤ 1000000) : impl_Pair_192.f xs (i : Int) (m : Int) ys = some (xs.take i ++ ys ++ xs.drop (i + m)) := by
  unfold impl_Pair_192.f
  have e1 : (([] : List S181) ++ xs.take i).length ≤ 1000000 := by simp; omega
  have e2 : (([] : List S181) ++ xs.take i ++ ys).length ≤ 2000000 := by simp; omega
  rw [w64 (n := (xs.length : Int) - m) (by omega) (by omega), w64 (n := (xs.length : Int) - m + ys.length) (by omega) (by omega), w64 (n := (i : Int) + m) (by omega) (by omega), if_pos (by omega), if_pos (by omega), Option.bind_some, if_pos (by omega), if_pos (by omega), Option.bind_some,
    Int.toNat_natCast, if_pos (by simp; omega), Option.bind_some, if_pos (by omega), Option.bind_some, if_pos (by omega), if_pos (by omega), Option.bind_some, if_pos (by simp; omega), show ((i : Int) + m).toNat = i + m by omega, List.nil_append]

/-! #### impl_PairPut -/
theorem impl_PairPut_f (xs : List S181) (k : ByteArray) (v : Int) : impl_PairPut.fL xs k v = some (pairPut xs k v) := by
  have hj : impl_PairPut.j0L xs k v true = some ([], false) := by rw [impl_PairPut.j0L_eq, if_pos rfl]
  rw [impl_PairPut.fL_eq, impl_PairsValid_f, Option.bind_some]
  unfold pairPut
  by_cases h1 : pairsOk xs = true
  · have h48 := pairsOk_le h1
    have hp := place_le k xs
    rw [if_pos h1, impl_KeyValid_f, Option.bind_some]
    by_cases h2 : keyOk (bs k) = true
    · rw [if_pos h2, impl_valueValid_f, Option.bind_some]
      by_cases h3 : 0 ≤ v ∧ v ≤ 999
      · rw [if_pos ⟨h1, h2, h3⟩, decide_eq_true h3, Bool.not_true, impl_PairPut.j0L_eq, if_neg (by simp), impl_pairPlace_f xs k h1, Option.bind_some]
        dsimp only
        by_cases h : hit k xs = true
        · have := hit_lt h
          have hr := impl_replaced_f xs [⟨k, v⟩] (place k xs) 1 (by omega) (by omega) (by simp)
          rw [if_pos h, if_pos h, show (1 : Int) = ((1 : Nat) : Int) from rfl, hr, Option.bind_some]; simp
        · rw [if_neg h, if_neg h]
          by_cases h4 : 48 ≤ xs.length
          · rw [if_pos (by omega), if_pos h4, impl_copyOf_f xs (by omega), Option.bind_some]
          · have hr := impl_replaced_f xs [⟨k, v⟩] (place k xs) 0 (by omega) (by omega) (by simp)
            rw [if_neg (by omega), if_neg h4, show (0 : Int) = ((0 : Nat) : Int) from rfl, hr, Option.bind_some]; simp
      · rw [decide_eq_false h3, Bool.not_false, hj, if_neg (fun h => h3 h.2.2)]
    · rw [if_neg h2, hj, if_neg (fun h => h2 h.2.1)]
  · rw [if_neg h1, hj, if_neg (fun h => h1 h.1)]

/-! #### impl_PairDrop -/
theorem impl_PairDrop_f (xs : List S181) (k : ByteArray) : impl_PairDrop.fL xs k = some (pairDrop xs k) := by
  rw [impl_PairDrop.fL_eq, impl_PairsValid_f, Option.bind_some]
  unfold pairDrop
  by_cases h1 : pairsOk xs = true
  · have h48 := pairsOk_le h1
    rw [if_pos h1, if_pos h1, impl_pairPlace_f xs k h1, Option.bind_some]
    dsimp only
    by_cases h : hit k xs = true
    · have := hit_lt h
      have hr := impl_replaced_f xs [] (place k xs) 1 (by omega) (by omega) (by simp)
      rw [if_pos h, if_pos h, show (1 : Int) = ((1 : Nat) : Int) from rfl, hr, Option.bind_some]; simp
    · rw [if_neg h, if_neg h, impl_copyOf_f xs (by omega), Option.bind_some]
  · rw [if_neg h1, if_neg h1]

/-! #### impl_RunHistory -/
theorem impl_EntryValid_a (a : S120) : impl_EntryValid.fL a.f0.f0 a.f0.f1 a.f0.f2.f0 a.f0.f2.f1 a.f0.f2.f2 a.f0.f2.f3 = some (decide (0 ≤ a.f0.f0 ∧ a.f0.f0 ≤ 3) && decide (1 ≤ a.f0.f1 ∧ a.f0.f1 ≤ 999) && cmdOk a.f0.f2.f0 a.f0.f2.f1 a.f0.f2.f2 a.f0.f2.f3) := by
  rw [impl_EntryValid.fL_eq, impl_seqValid_f, Option.bind_some, impl_CommandValid_f, Option.bind_some]
  by_cases h1 : a.f0.f0 ≥ 0
  · rw [if_pos h1]
    by_cases h2 : a.f0.f0 < 4
    · rw [if_pos h2, decide_eq_true (p := 0 ≤ a.f0.f0 ∧ a.f0.f0 ≤ 3) (by omega), Bool.true_and]
      cases decide (1 ≤ a.f0.f1 ∧ a.f0.f1 ≤ 999) <;> simp
    · rw [if_neg h2, decide_eq_false (p := 0 ≤ a.f0.f0 ∧ a.f0.f0 ≤ 3) (by omega)]; simp
  · rw [if_neg h1, decide_eq_false (p := 0 ≤ a.f0.f0 ∧ a.f0.f0 ≤ 3) (by omega)]; simp
theorem impl_RunHistory_l0 (xs : List S120) (hx : xs.length ≤ 200) : ∀ (ys : List S120) (l : List S181) (i : Int), 0 ≤ i → i ≤ xs.length → xs.drop i.toNat = ys → impl_RunHistory.l0L l xs (xs.length : Int) i = some (if ys.all ansOk = true then runHist l ys else ([], false))
  | [], l, i, h0, h1, hd => by
    have := drop_nil h0 h1 hd
    rw [impl_RunHistory.l0L_eq, if_neg (by omega)]; rfl
  | y :: ys, l, i, h0, h1, hd => by
    obtain ⟨hr0, hl, hd'⟩ := getD_cons (d := z120) h0 hd
    have hr : rd_T120 xs i = y := hr0
    have ih := fun l' => impl_RunHistory_l0 xs hx ys l' (i + 1) (by omega) (by omega) hd'
    rw [impl_RunHistory.l0L_eq, if_pos hl, if_pos h0, if_pos hl, hr, impl_EntryValid_a, Option.bind_some]
    have hj : ∀ b : Bool, impl_RunHistory.j1L l xs (xs.length : Int) i b y.f0.f0 y.f0.f1 y.f0.f2.f0 y.f0.f2.f1 y.f0.f2.f2 y.f0.f2.f3 y.f1 = if b = true then some ([], false) else some (if ys.all ansOk = true then runHist l (y :: ys) else ([], false)) := by
      intro b
      rw [impl_RunHistory.j1L_eq, w64 (by omega) (by omega)]
      cases b with
      | true => rw [if_pos rfl, if_pos rfl]
      | false =>
        rw [if_neg (by simp), if_neg (show ¬ (false = true) by simp)]
        simp only [runHist]
        by_cases e : y.f1 = -2
        · rw [if_pos e, if_pos e, ih]
        · rw [if_neg e, if_neg e, impl_mapAfter.fL_eq, impl_PairGet_f, Option.bind_some, impl_PairDrop_f, impl_PairPut_f]
          by_cases e2 : y.f1 = pairGet l y.f0.f2.f1
          · rw [if_pos e2, if_pos e2]
            by_cases e3 : y.f0.f2.f0 = 3
            · rw [if_pos e3, if_pos e3, Option.bind_some, Option.bind_some, if_pos rfl, ih]
            · rw [if_neg e3, if_neg e3]
              by_cases e4 : y.f0.f2.f0 = 2
              · rw [if_pos e4, if_pos (show (y.f0.f2.f0 = 2 ∨ (y.f0.f2.f0 = 4 ∧ y.f0.f2.f3 = pairGet l y.f0.f2.f1)) from .inl e4), Option.bind_some, Option.bind_some]
                by_cases e5 : (pairPut l y.f0.f2.f1 y.f0.f2.f2).2 = true
                · rw [if_pos e5, if_pos e5, ih]
                · rw [if_neg e5, if_neg e5]; split <;> rfl
              · rw [if_neg e4]
                by_cases e6 : y.f0.f2.f0 = 4
                · rw [if_pos e6]
                  by_cases e7 : y.f0.f2.f3 = pairGet l y.f0.f2.f1
                  · rw [if_pos e7, if_pos (show (y.f0.f2.f0 = 2 ∨ (y.f0.f2.f0 = 4 ∧ y.f0.f2.f3 = pairGet l y.f0.f2.f1)) from .inr ⟨e6, e7⟩), Option.bind_some, Option.bind_some]
                    by_cases e5 : (pairPut l y.f0.f2.f1 y.f0.f2.f2).2 = true
                    · rw [if_pos e5, if_pos e5, ih]
                    · rw [if_neg e5, if_neg e5]; split <;> rfl
                  · rw [if_neg e7, if_neg (show ¬ (y.f0.f2.f0 = 2 ∨ (y.f0.f2.f0 = 4 ∧ y.f0.f2.f3 = pairGet l y.f0.f2.f1)) from fun h => h.elim e4 fun h => e7 h.2), Option.bind_some, if_pos rfl, ih]
                · rw [if_neg e6, if_neg (show ¬ (y.f0.f2.f0 = 2 ∨ (y.f0.f2.f0 = 4 ∧ y.f0.f2.f3 = pairGet l y.f0.f2.f1)) from fun h => h.elim e4 fun h => e6 h.1), Option.bind_some, if_pos rfl, ih]
          · rw [if_neg e2, if_neg e2, Option.bind_some, if_neg (by simp)]; split <;> rfl
    simp only [hj, beq_dec]
    have ha : ansOk y = (decide (0 ≤ y.f0.f0 ∧ y.f0.f0 ≤ 3) && decide (1 ≤ y.f0.f1 ∧ y.f0.f1 ≤ 999) && cmdOk y.f0.f2.f0 y.f0.f2.f1 y.f0.f2.f2 y.f0.f2.f3 && decide (¬ y.f0.f2.f0 = 5)) := rfl
    rw [List.all_cons, ha]
    cases (decide (0 ≤ y.f0.f0 ∧ y.f0.f0 ≤ 3) && decide (1 ≤ y.f0.f1 ∧ y.f0.f1 ≤ 999) && cmdOk y.f0.f2.f0 y.f0.f2.f1 y.f0.f2.f2 y.f0.f2.f3) with
    | false => simp
    | true =>
      by_cases e : y.f0.f2.f0 = 5
      · simp [e]
      · simp [e]
theorem impl_RunHistory_f (xs : List S120) : impl_RunHistory.fL xs = some (runHistory xs) := by
  rw [impl_RunHistory.fL_eq]
  unfold runHistory
  by_cases h : (xs.length : Int) > 200
  · rw [if_pos h, decide_eq_false (by omega), if_neg (by simp)]
  · rw [if_neg h, decide_eq_true (by omega), impl_RunHistory_l0 xs (by omega) xs [] 0 (by omega) (by omega) (by simp), Bool.true_and]

/-! #### impl_RepliesRight -/
theorem impl_RepliesRight_l0 (xs : List S32) (o : List Int) (ho : o.length ≤ 5) (hr : ∀ m ∈ o, 0 ≤ m ∧ m < xs.length) : ∀ (ys : List Int) (out : List S120) (i : Int), 0 ≤ i → i ≤ o.length → (out.length : Int) ≤ i → o.drop i.toNat = ys → impl_RepliesRight.l0L xs out o (o.length : Int) i = some (runHistory (out ++ answers xs ys)).2
  | [], out, i, h0, h1, hl0, hd => by
    have := drop_nil h0 h1 hd
    rw [impl_RepliesRight.l0L_eq, if_neg (by omega), impl_RunHistory_f, Option.bind_some]; simp [answers]
  | y :: ys, out, i, h0, h1, hl0, hd => by
    obtain ⟨hz, hl, hd'⟩ := rd_drop h0 hd
    have hm : y ∈ o := by
      have : y ∈ o.drop i.toNat := by rw [hd]; exact List.mem_cons_self
      exact List.mem_of_mem_drop this
    have hy := hr y hm
    rw [impl_RepliesRight.l0L_eq, if_pos hl, if_pos h0, if_pos hl, hz, if_pos hy.1, if_pos hy.2, if_pos (by omega), w64 (by omega) (by omega), impl_RepliesRight_l0 xs o ho hr ys _ (i + 1) (by omega) (by omega) (by simp; omega) hd']
    simp [answers, ansOf]
theorem impl_RepliesRight_f (xs : List S32) (o : List Int) : impl_RepliesRight.fL xs o = some (repliesRight xs o) := by
  have hj : impl_RepliesRight.j0L xs o true = some false := by rw [impl_RepliesRight.j0L_eq, if_pos rfl]
  rw [impl_RepliesRight.fL_eq, impl_resultsValid_f, Option.bind_some]
  unfold repliesRight
  by_cases h : (decide (xs.length ≤ 5) && xs.all resOk) = true
  · rw [if_pos h, h, impl_OrderValid_f, Option.bind_some]
    by_cases h2 : orderOk xs.length o = true
    · have hi := (orderOk_iff _ _).1 h2
      rw [h2, Bool.not_true, impl_RepliesRight.j0L_eq, if_neg (by simp), impl_RepliesRight_l0 xs o hi.1 hi.2.2.1 o [] 0 (by omega) (by omega) (by simp) (by simp)]; simp
    · rw [show orderOk xs.length o = false by simpa using h2, Bool.not_false, hj]; rfl
  · rw [if_neg h, hj, show (decide (xs.length ≤ 5) && xs.all resOk) = false by simpa using h]; rfl

/-! #### spec_pairs -/
theorem spec_PairsValid_l0 (xs : List S181) (hx : xs.length ≤ 48) : ∀ (ys : List S181) (i : Int) (p : Option ByteArray), 0 ≤ i → i ≤ xs.length → xs.drop i.toNat = ys → (i = 0 → p = none) → (0 < i → p = some (rd_T181 xs (i - 1)).f0) → spec_PairsValid.l0L xs i = some (pairsFrom p ys)
  | [], i, p, h0, h1, hd, hp0, hp1 => by
    have := drop_nil h0 h1 hd
    rw [spec_PairsValid.l0L_eq, if_neg (by omega)]; rfl
  | y :: ys, i, p, h0, h1, hd, hp0, hp1 => by
    obtain ⟨hr0, hl, hd'⟩ := getD_cons (d := z181) h0 hd
    have hr : rd_T181 xs i = y := hr0
    have hnext := spec_PairsValid_l0 xs hx ys (i + 1) (some y.f0) (by omega) (by omega) hd' (fun h => by omega) (fun _ => by rw [show i + 1 - 1 = i by omega, hr])
    rw [spec_PairsValid.l0L_eq, if_pos hl, if_pos h0, hr, spec_KeyValid_f, Option.bind_some, spec_l1In_f, Option.bind_some]
    simp only [w64 (n := i - 1) (by omega) (by omega), w64 (n := i + 1) (by omega) (by omega), pairsFrom, pairItem]
    cases hk : keyOk (bs y.f0) with
    | false => simp
    | true =>
      by_cases hv : 0 ≤ y.f1 ∧ y.f1 ≤ 999
      · rw [decide_eq_true hv]
        by_cases hi : i > 0
        · rw [if_pos rfl, if_pos rfl, if_pos hi, if_pos (by omega), if_pos (by omega), hp1 hi, hnext]
          simp only [above, klt]
          cases Op.bytesLess (rd_T181 xs (i - 1)).f0.toList y.f0.toList <;> simp
        · rw [if_pos rfl, if_pos rfl, if_neg hi, hp0 (by omega), hnext]
          simp [above]
      · rw [decide_eq_false hv]; simp
theorem spec_PairsValid_f (xs : List S181) : spec_PairsValid.fL xs = some (pairsOk xs) := by
  rw [spec_PairsValid.fL_eq]
  unfold pairsOk
  by_cases h : (xs.length : Int) > 48
  · rw [if_pos h, decide_eq_false (by omega)]; rfl
  · rw [if_neg h, decide_eq_true (by omega), spec_PairsValid_l0 xs (by omega) xs 0 none (by omega) (by omega) (by simp) (fun _ => rfl) (fun h => by omega)]; rfl

/-! #### spec_pairmap -/
theorem spec_l4Place_l0 (xs : List S181) (k : ByteArray) (hx : xs.length ≤ 1000000000000) : ∀ (ys : List S181) (i : Int), 0 ≤ i → i ≤ xs.length → xs.drop i.toNat = ys → spec_l4Place.l0L xs k i = some (i + (place k ys : Int))
  | [], i, h0, h1, hd => by
    have := drop_nil h0 h1 hd
    rw [spec_l4Place.l0L_eq, if_neg (by omega)]; simp [place]
  | y :: ys, i, h0, h1, hd => by
    obtain ⟨hr0, hl, hd'⟩ := getD_cons (d := z181) h0 hd
    have hr : rd_T181 xs i = y := hr0
    rw [spec_l4Place.l0L_eq, if_pos hl, if_pos h0, hr]
    by_cases h : klt y.f0 k = true
    · rw [if_pos (show Op.bytesLess y.f0.toList k.toList = true from h), w64 (by omega) (by omega), spec_l4Place_l0 xs k hx ys (i + 1) (by omega) (by omega) hd']
      simp only [place, if_pos h]
      congr 1; omega
    · rw [if_neg (show ¬ Op.bytesLess y.f0.toList k.toList = true from h)]
      simp only [place, if_neg h]
      congr 1; omega
theorem spec_l4Place_f (xs : List S181) (k : ByteArray) (hx : xs.length ≤ 1000000000000) : spec_l4Place.fL xs k = some (place k xs : Int) := by
  rw [spec_l4Place.fL_eq, spec_l4Place_l0 xs k hx xs 0 (by omega) (by omega) (by simp)]
  congr 1; omega

/-! #### spec_PairGet -/
theorem spec_PairGet_f (xs : List S181) (k : ByteArray) (hx : xs.length ≤ 1000000000000) : spec_PairGet.fL xs k = some (pairGet xs k) := by
  have hp := place_le k xs
  rw [spec_PairGet.fL_eq, spec_l4Place_f xs k hx, Option.bind_some, spec_PairsValid_f, Option.bind_some]
  unfold pairGet
  by_cases h1 : pairsOk xs = true
  · rw [if_pos h1, if_pos h1]
    by_cases e : (place k xs : Int) = (xs.length : Int)
    · have : ¬ hit k xs = true := fun h => by have := hit_lt h; omega
      rw [if_pos e, if_neg this]
    · rw [if_neg e, if_pos (by omega), if_pos (by omega)]
      by_cases e2 : (rd_T181 xs (place k xs : Int)).f0 = k
      · have hh : hit k xs = true := decide_eq_true ⟨by omega, e2⟩
        rw [if_pos (by rw [e2]), if_pos hh]
      · have hh : ¬ hit k xs = true := fun h => e2 (hit_key h)
        rw [if_neg (fun h => e2 (toList_eq.1 h)), if_neg hh]
  · rw [if_neg h1, if_neg h1]

/-! #### spec_PairPut -/
theorem spec_PairPut_f (xs : List S181) (k : ByteArray) (v : Int) (hx : xs.length ≤ 1000000000000) : spec_PairPut.fL xs k v = some (pairPut xs k v) := by
  have hj : ∀ y : List S181, spec_PairPut.j0L xs k v y true = some (y, false) := fun y => by rw [spec_PairPut.j0L_eq, if_pos rfl]
  rw [spec_PairPut.fL_eq, Option.bind_some, spec_PairsValid_f, Option.bind_some]
  unfold pairPut
  by_cases h1 : pairsOk xs = true
  · rw [if_pos h1, spec_KeyValid_f, Option.bind_some]
    by_cases h2 : keyOk (bs k) = true
    · rw [if_pos h2, spec_l1In_f, Option.bind_some]
      by_cases h3 : 0 ≤ v ∧ v ≤ 999
      · have hp := place_le k xs
        rw [if_pos ⟨h1, h2, h3⟩, decide_eq_true h3, Bool.not_true, spec_PairPut.j0L_eq, if_neg (by simp), spec_l4Place_f xs k hx, Option.bind_some]
        have hj1 : ∀ b : Bool, (hit k xs = b) → spec_PairPut.j1L xs k v [] (place k xs : Int) b = some (if hit k xs = true then (xs.take (place k xs) ++ ⟨k, v⟩ :: xs.drop (place k xs + 1), true) else if 48 ≤ xs.length then (xs, false) else (xs.take (place k xs) ++ ⟨k, v⟩ :: xs.drop (place k xs), true)) := by
          intro b hb
          rw [spec_PairPut.j1L_eq, hb]
          cases b with
          | true =>
            have hl := hit_lt hb
            have hk := hit_key hb
            rw [if_pos rfl, if_pos (by simp; omega), Option.bind_some, if_pos (by omega), if_pos (by simp; omega), if_pos rfl]
            rw [List.nil_append, hk, Int.toNat_natCast, set_split _ _ _ hl]
          | false =>
            rw [if_neg (by simp), if_neg (show ¬ (false = true) by simp)]
            by_cases h4 : 48 ≤ xs.length
            · rw [if_pos (by omega), if_pos (by simp; omega), if_pos h4]; simp
            · have e1 : (([] : List S181) ++ xs.take (place k xs)).length ≤ 1000000000000 := by simp; omega
              have e2 : (([] : List S181) ++ xs.take (place k xs) ++ [(⟨k, v⟩ : S181)]).length ≤ 1000000000000 := by simp; omega
              rw [if_neg (by omega), if_neg h4, if_pos (by omega), if_pos (by omega), Int.toNat_natCast, Option.bind_some, if_pos (by simp; omega), Option.bind_some, if_pos (by omega), Option.bind_some, Option.bind_some, if_pos (by simp; omega)]
              simp
        by_cases e : (place k xs : Int) < (xs.length : Int)
        · rw [if_pos e, if_pos (by omega)]
          refine hj1 _ ?_
          unfold hit
          by_cases e2 : (rd_T181 xs (place k xs : Int)).f0 = k
          · rw [decide_eq_true ⟨by omega, e2⟩, e2]; simp
          · rw [decide_eq_false (fun h => e2 h.2)]
            symm; rw [beq_eq_false_iff_ne]; intro h; exact e2 (toList_eq.1 h)
        · rw [if_neg e]
          refine hj1 _ ?_
          unfold hit
          rw [decide_eq_false (fun h => e (by omega))]
      · rw [decide_eq_false h3, Bool.not_false, hj, if_neg (fun h => h3 h.2.2)]
    · rw [if_neg h2, hj, if_neg (fun h => h2 h.2.1)]
  · rw [if_neg h1, hj, if_neg (fun h => h1 h.1)]

/-! #### spec_PairDrop -/
theorem spec_PairDrop_f (xs : List S181) (k : ByteArray) (hx : xs.length ≤ 1000000000000) : spec_PairDrop.fL xs k = some (pairDrop xs k) := by
  have hp := place_le k xs
  rw [spec_PairDrop.fL_eq, Option.bind_some, spec_PairsValid_f, Option.bind_some]
  unfold pairDrop
  by_cases h1 : pairsOk xs = true
  · have h48 := pairsOk_le h1
    rw [if_pos h1, if_pos h1, spec_l4Place_f xs k hx, Option.bind_some]
    by_cases e : (place k xs : Int) = (xs.length : Int)
    · have : ¬ hit k xs = true := fun h => by have := hit_lt h; omega
      rw [if_pos e, if_pos (by simp; omega), if_neg this, List.nil_append]
    · rw [if_neg e, if_pos (by omega), if_pos (by omega)]
      by_cases e2 : (rd_T181 xs (place k xs : Int)).f0 = k
      · have hh : hit k xs = true := decide_eq_true ⟨by omega, e2⟩
        rw [if_pos (by rw [e2]), if_pos (by omega), Option.bind_some, if_pos (by simp; omega), Option.bind_some, w64 (by omega) (by omega), if_pos (by omega), if_pos (by omega), Option.bind_some, if_pos (by simp; omega), if_pos hh]
        rw [Int.toNat_natCast, show ((place k xs : Int) + 1).toNat = place k xs + 1 by omega, List.nil_append]
      · have hh : ¬ hit k xs = true := fun h => e2 (hit_key h)
        rw [if_neg (fun h => e2 (toList_eq.1 h)), if_pos (by simp; omega), if_neg hh, List.nil_append]
  · rw [if_neg h1, if_neg h1]

/-! #### spec_CommandValid -/
theorem spec_CommandValid_f (k : Int) (s : ByteArray) (v o : Int) : spec_CommandValid.fL k s v o = some (cmdOk k s v o) := by
  have hz : spec_CommandValid.j1L k true k s v o = some (decide (v = 0) && decide (o = 0)) := by
    rw [spec_CommandValid.j1L_eq, if_pos rfl, beq_dec]
    by_cases hv : v = 0
    · rw [if_pos hv, decide_eq_true hv]; rfl
    · rw [if_neg hv, decide_eq_false hv]; rfl
  have hn : spec_CommandValid.j1L k false k s v o = some (if k = 2 then decide (0 ≤ v ∧ v ≤ 999) && decide (o = 0) else if k = 4 then decide (0 ≤ v ∧ v ≤ 999) && decide (-1 ≤ o ∧ o ≤ 999) else false) := by
    rw [spec_CommandValid.j1L_eq, if_neg (by simp), spec_l1In_f, Option.bind_some, spec_l1In_f, Option.bind_some]
    by_cases h2 : k = 2
    · rw [if_pos h2, if_pos h2, beq_dec]
      by_cases hv : 0 ≤ v ∧ v ≤ 999
      · rw [if_pos (by simpa using hv), decide_eq_true hv]; rfl
      · rw [if_neg (by simpa using hv), decide_eq_false hv]; rfl
    · rw [if_neg h2, if_neg h2]
      by_cases h4 : k = 4
      · rw [if_pos h4, if_pos h4, Option.bind_some]
        by_cases hv : 0 ≤ v ∧ v ≤ 999
        · rw [if_pos (by simpa using hv), decide_eq_true hv]; rfl
        · rw [if_neg (by simpa using hv), decide_eq_false hv]; rfl
      · rw [if_neg h4, if_neg h4]
  have hj : spec_CommandValid.j0L false k s v o = some (decide (1 ≤ k ∧ k ≤ 5) && (if k = 2 then decide (0 ≤ v ∧ v ≤ 999) && decide (o = 0) else if k = 4 then decide (0 ≤ v ∧ v ≤ 999) && decide (-1 ≤ o ∧ o ≤ 999) else decide (v = 0) && decide (o = 0))) := by
    rw [spec_CommandValid.j0L_eq, if_neg (by simp), beq_dec, beq_dec, beq_dec]
    by_cases h1 : k = 1
    · rw [if_pos h1, decide_eq_true h1, hz, decide_eq_true (p := 1 ≤ k ∧ k ≤ 5) (by omega), if_neg (by omega), if_neg (by omega)]; rfl
    · rw [if_neg h1]
      by_cases h3 : k = 3
      · rw [if_pos h3, decide_eq_true h3, hz, decide_eq_true (p := 1 ≤ k ∧ k ≤ 5) (by omega), if_neg (by omega), if_neg (by omega)]; rfl
      · rw [if_neg h3]
        by_cases h5 : k = 5
        · rw [decide_eq_true h5, hz, decide_eq_true (p := 1 ≤ k ∧ k ≤ 5) (by omega), if_neg (by omega), if_neg (by omega)]; rfl
        · rw [decide_eq_false h5, hn]
          by_cases h2 : k = 2
          · rw [decide_eq_true (p := 1 ≤ k ∧ k ≤ 5) (by omega), if_pos h2, if_pos h2]; rfl
          · by_cases h4 : k = 4
            · rw [decide_eq_true (p := 1 ≤ k ∧ k ≤ 5) (by omega), if_neg h2, if_neg h2, if_pos h4, if_pos h4]; rfl
            · rw [decide_eq_false (p := 1 ≤ k ∧ k ≤ 5) (by omega), if_neg h2, if_neg h4]; rfl
  have ht : spec_CommandValid.j0L true k s v o = some false := by rw [spec_CommandValid.j0L_eq, if_pos rfl]
  rw [spec_CommandValid.fL_eq, spec_KeyValid_f, Option.bind_some, hj, ht, bne_dec]
  unfold cmdOk
  cases hk : keyOk (bs s) with
  | true => rw [if_pos rfl]; simp
  | false =>
    rw [if_neg (by simp)]
    by_cases h : k = 5
    · rw [if_pos h]
      by_cases hs : s.toList = []
      · rw [decide_eq_true hs, decide_eq_true h, Bool.not_true, hj]; simp
      · rw [decide_eq_false hs, Bool.not_false, ht]; simp
    · rw [if_neg h, decide_eq_false h]; simp

/-! #### spec_RunHistory -/
theorem spec_EntryValid_a (a : S120) : spec_EntryValid.fL a.f0.f0 a.f0.f1 a.f0.f2.f0 a.f0.f2.f1 a.f0.f2.f2 a.f0.f2.f3 = some (decide (0 ≤ a.f0.f0 ∧ a.f0.f0 ≤ 3) && decide (1 ≤ a.f0.f1 ∧ a.f0.f1 ≤ 999) && cmdOk a.f0.f2.f0 a.f0.f2.f1 a.f0.f2.f2 a.f0.f2.f3) := by
  rw [spec_EntryValid.fL_eq, spec_l1In_f, Option.bind_some, spec_l1In_f, Option.bind_some, spec_CommandValid_f, Option.bind_some]
  cases decide (0 ≤ a.f0.f0 ∧ a.f0.f0 ≤ 3) <;> cases decide (1 ≤ a.f0.f1 ∧ a.f0.f1 ≤ 999) <;> simp
theorem spec_RunHistory_l1 (xs : List S120) (hx : xs.length ≤ 200) (hok : ∀ a ∈ xs, ansOk a = true) : ∀ (ys : List S120) (l : List S181) (i : Int), l.length ≤ 48 → 0 ≤ i → i ≤ xs.length → xs.drop i.toNat = ys → spec_RunHistory.l1L xs l i = some (runHist l ys)
  | [], l, i, hl0, h0, h1, hd => by
    have := drop_nil h0 h1 hd
    rw [spec_RunHistory.l1L_eq, if_neg (by omega)]; rfl
  | y :: ys, l, i, hl0, h0, h1, hd => by
    obtain ⟨hr0, hl, hd'⟩ := getD_cons (d := z120) h0 hd
    have hr : rd_T120 xs i = y := hr0
    have hy : y ∈ xs := by
      have : y ∈ xs.drop i.toNat := by rw [hd]; exact List.mem_cons_self
      exact List.mem_of_mem_drop this
    have hk := ansOk_kind (hok y hy)
    have ih := fun l' (hl' : l'.length ≤ 48) => spec_RunHistory_l1 xs hx hok ys l' (i + 1) hl' (by omega) (by omega) hd'
    have hdl := pairDrop_length l y.f0.f2.f1
    have hpl := pairPut_length l y.f0.f2.f1 y.f0.f2.f2
    rw [spec_RunHistory.l1L_eq, if_pos hl, if_pos h0, hr, w64 (by omega) (by omega), spec_l29one.fL_eq, spec_PairGet_f l _ (by omega), Option.bind_some, spec_PairDrop_f l _ (by omega), spec_PairPut_f l _ _ (by omega)]
    simp only [runHist]
    by_cases e : y.f1 = -2
    · rw [if_pos e, if_pos e, Option.bind_some, if_pos rfl, ih l hl0]
    · rw [if_neg e, if_neg e]
      by_cases e2 : y.f1 = pairGet l y.f0.f2.f1
      · rw [if_pos e2, if_pos e2]
        by_cases e3 : y.f0.f2.f0 = 3
        · rw [if_pos e3, if_pos e3, Option.bind_some, Option.bind_some, if_pos rfl, ih _ hdl]
        · rw [if_neg e3, if_neg e3]
          by_cases e6 : y.f0.f2.f0 = 4
          · rw [if_pos e6]
            by_cases e7 : y.f0.f2.f3 = pairGet l y.f0.f2.f1
            · rw [if_pos e7, if_pos (show (y.f0.f2.f0 = 2 ∨ (y.f0.f2.f0 = 4 ∧ y.f0.f2.f3 = pairGet l y.f0.f2.f1)) from .inr ⟨e6, e7⟩), Option.bind_some, Option.bind_some]
              by_cases e5 : (pairPut l y.f0.f2.f1 y.f0.f2.f2).2 = true
              · rw [if_pos e5, if_pos e5, ih _ hpl]
              · rw [if_neg e5, if_neg e5]
            · rw [if_neg e7, if_neg (show ¬ (y.f0.f2.f0 = 2 ∨ (y.f0.f2.f0 = 4 ∧ y.f0.f2.f3 = pairGet l y.f0.f2.f1)) from fun h => h.elim (fun h => by omega) fun h => e7 h.2), Option.bind_some, if_pos rfl, ih l hl0]
          · rw [if_neg e6]
            by_cases e1 : y.f0.f2.f0 = 1
            · rw [if_pos e1, if_neg (show ¬ (y.f0.f2.f0 = 2 ∨ (y.f0.f2.f0 = 4 ∧ y.f0.f2.f3 = pairGet l y.f0.f2.f1)) from fun h => by omega), Option.bind_some, if_pos rfl, ih l hl0]
            · rw [if_neg e1, if_pos (show (y.f0.f2.f0 = 2 ∨ (y.f0.f2.f0 = 4 ∧ y.f0.f2.f3 = pairGet l y.f0.f2.f1)) from .inl (by omega)), Option.bind_some, Option.bind_some]
              by_cases e5 : (pairPut l y.f0.f2.f1 y.f0.f2.f2).2 = true
              · rw [if_pos e5, if_pos e5, ih _ hpl]
              · rw [if_neg e5, if_neg e5]
      · rw [if_neg e2, if_neg e2, Option.bind_some, if_neg (by simp)]
theorem spec_RunHistory_l0 (xs : List S120) (hx : xs.length ≤ 1000000000000) : ∀ (ys : List S120) (i : Int), 0 ≤ i → i ≤ xs.length → xs.drop i.toNat = ys → spec_RunHistory.l0L xs [] i = if (xs.length : Int) ≤ (if ys = [] then i else 200) ∧ ys.all ansOk = true then spec_RunHistory.l1L xs [] 0 else if ys = [] then spec_RunHistory.l1L xs [] 0 else some ([], false)
  | [], i, h0, h1, hd => by
    have := drop_nil h0 h1 hd
    rw [spec_RunHistory.l0L_eq, if_neg (by omega)]; simp
  | y :: ys, i, h0, h1, hd => by
    obtain ⟨hr0, hl, hd'⟩ := getD_cons (d := z120) h0 hd
    have hr : rd_T120 xs i = y := hr0
    have ih := spec_RunHistory_l0 xs hx ys (i + 1) (by omega) (by omega) hd'
    have hylen : (xs.length : Int) = i + 1 + ys.length := by
      have := congrArg List.length hd'
      rw [List.length_drop] at this
      omega
    rw [spec_RunHistory.l0L_eq, if_pos hl, hr, spec_EntryValid_a, Option.bind_some, w64 (by omega) (by omega), ih, if_neg (show ¬ (y :: ys = []) by simp), if_neg (show ¬ (y :: ys = []) by simp), List.all_cons]
    have ha : ansOk y = (decide (0 ≤ y.f0.f0 ∧ y.f0.f0 ≤ 3) && decide (1 ≤ y.f0.f1 ∧ y.f0.f1 ≤ 999) && cmdOk y.f0.f2.f0 y.f0.f2.f1 y.f0.f2.f2 y.f0.f2.f3 && decide (¬ y.f0.f2.f0 = 5)) := rfl
    by_cases h200 : i ≥ 200
    · rw [if_pos h200, if_neg (fun h => by omega)]
    · rw [if_neg h200, if_pos h0, ha]
      cases (decide (0 ≤ y.f0.f0 ∧ y.f0.f0 ≤ 3) && decide (1 ≤ y.f0.f1 ∧ y.f0.f1 ≤ 999) && cmdOk y.f0.f2.f0 y.f0.f2.f1 y.f0.f2.f2 y.f0.f2.f3) with
      | false => simp
      | true =>
        by_cases e : y.f0.f2.f0 = 5
        · simp [e]
        · rw [if_pos rfl, if_neg e, decide_eq_true (p := ¬ y.f0.f2.f0 = 5) e]
          cases ys with
          | nil =>
            have : (xs.length : Int) ≤ 200 := by simp at hylen; omega
            simp [this]
          | cons w ws => rw [if_neg (show ¬ (w :: ws = []) by simp), if_neg (show ¬ (w :: ws = []) by simp)]; simp
theorem spec_RunHistory_f (xs : List S120) (hx : xs.length ≤ 1000000000000) : spec_RunHistory.fL xs = some (runHistory xs) := by
  rw [spec_RunHistory.fL_eq, spec_RunHistory_l0 xs hx xs 0 (by omega) (by omega) (by simp)]
  unfold runHistory
  cases xs with
  | nil =>
    rw [if_pos (by simp), spec_RunHistory_l1 [] (by simp) (by simp) [] [] 0 (by simp) (by omega) (by omega) rfl]; simp
  | cons y ys =>
    rw [if_neg (show ¬ (y :: ys = []) by simp), if_neg (show ¬ (y :: ys = []) by simp)]
    by_cases h : (y :: ys).length ≤ 200 ∧ (y :: ys).all ansOk = true
    · rw [if_pos ⟨by omega, h.2⟩, decide_eq_true h.1, h.2, if_pos (by simp), spec_RunHistory_l1 (y :: ys) h.1 (List.all_eq_true.1 h.2) (y :: ys) [] 0 (by simp) (by omega) (by omega) rfl]
    · rw [if_neg (fun h2 => h ⟨by omega, h2.2⟩), if_neg (fun h2 => h (by simpa using h2))]

/-! #### spec_ResultValid -/
theorem spec_l25Wish_f (k : Int) (s : ByteArray) (v o : Int) : spec_l25Wish.fL k s v o = some (cmdOk k s v o && decide (¬ k = 5)) := by
  rw [spec_l25Wish.fL_eq, spec_CommandValid_f, Option.bind_some, ite_and, bne5]
theorem spec_ResultValid_f (x : S32) : spec_ResultValid.fL x.f0 x.f1 x.f2.f0 x.f2.f1 x.f2.f2 x.f2.f3 x.f3 x.f4 x.f5 = some (resOk x) := by
  rw [spec_ResultValid.fL_eq, spec_l1In_f, spec_l1In_f, spec_l25Wish_f, spec_l1In_f, spec_l1In_f, spec_l1In_f]
  simp only [Option.bind_some, ite_and, resOk, Bool.and_assoc]

/-! #### spec_RepliesRight -/
theorem spec_RepliesRight_l0 (xs : List S32) (o : List Int) (ho : o.length ≤ 5) (hr : ∀ m ∈ o, 0 ≤ m ∧ m < xs.length) : ∀ (ys : List Int) (out : List S120) (i : Int), 0 ≤ i → i ≤ o.length → (out.length : Int) ≤ i → o.drop i.toNat = ys → spec_RepliesRight.l0L xs o out i = some ((ys.all fun m => resOk (rd_T32 xs m)) && (runHistory (out ++ answers xs ys)).2)
  | [], out, i, h0, h1, hl0, hd => by
    have := drop_nil h0 h1 hd
    rw [spec_RepliesRight.l0L_eq, if_neg (by omega), spec_RunHistory_f _ (by omega), Option.bind_some]; simp [answers]
  | y :: ys, out, i, h0, h1, hl0, hd => by
    obtain ⟨hz, hl, hd'⟩ := rd_drop h0 hd
    have hm : y ∈ o := by
      have : y ∈ o.drop i.toNat := by rw [hd]; exact List.mem_cons_self
      exact List.mem_of_mem_drop this
    have hy := hr y hm
    rw [spec_RepliesRight.l0L_eq, if_pos hl, if_pos h0, hz, if_pos hy.1, if_pos hy.2, spec_ResultValid_f, Option.bind_some, List.all_cons]
    cases resOk (rd_T32 xs y) with
    | false => simp
    | true =>
      rw [if_pos rfl, if_pos (by omega), w64 (by omega) (by omega), spec_RepliesRight_l0 xs o ho hr ys _ (i + 1) (by omega) (by omega) (by simp; omega) hd']
      simp [answers, ansOf]
theorem spec_RepliesRight_f (xs : List S32) (o : List Int) : spec_RepliesRight.fL xs o = some (repliesRight xs o) := by
  rw [spec_RepliesRight.fL_eq, spec_OrderValid_f, Option.bind_some]
  unfold repliesRight
  by_cases h2 : orderOk xs.length o = true
  · have hi := (orderOk_iff _ _).1 h2
    rw [if_pos h2, spec_RepliesRight_l0 xs o hi.1 hi.2.2.1 o [] 0 (by omega) (by omega) (by simp) (by simp), all_over h2, h2, decide_eq_true (p := xs.length ≤ 5) (by omega)]
    simp
  · have h2' : orderOk xs.length o = false := by simpa using h2
    rw [if_neg h2, h2']; simp

/-! #### reader -/
theorem spec_l20Open_f (l : List Int) : spec_l20Open.f l = some (l.take 2000, 0) := by
  unfold spec_l20Open.f
  by_cases h : (l.length : Int) > 2000
  · rw [if_pos h, if_pos (by omega)]
  · rw [if_neg h, List.take_of_length_le (by omega)]
/-- The bytes of a code. -/
def Code (b : List Int) : Prop := b.length ≤ 2000 ∧ ∀ x ∈ b, 0 ≤ x ∧ x ≤ 255
theorem Code.take {l : List Int} (h : ∀ x ∈ l, (Lit.int .u8 x).wf = true) : Code (l.take 2000) :=
  ⟨by rw [List.length_take]; omega, fun x hx => wf8 (h x (List.mem_of_mem_take hx))⟩
theorem Code.get {b : List Int} (h : Code b) (i : Int) (hi : i.toNat < b.length) : 0 ≤ rd b i ∧ rd b i ≤ 255 := by
  unfold rd
  rw [List.getD_eq_getElem?_getD, List.getElem?_eq_getElem hi]
  exact h.2 _ (List.getElem_mem hi)
theorem xor_range (a b : Int) (h0 : 0 ≤ a) (h1 : a ≤ 4611686018427387903) (h2 : 0 ≤ b) (h3 : b ≤ 4611686018427387903) : 0 ≤ Go.bits .xor .i64 a b ∧ Go.bits .xor .i64 a b ≤ 4611686018427387903 := by
  obtain ⟨x, rfl⟩ := Int.eq_ofNat_of_zero_le h0
  obtain ⟨y, rfl⟩ := Int.eq_ofNat_of_zero_le h2
  have hx : x ^^^ y < 2 ^ 62 := Nat.xor_lt_two_pow (by omega) (by omega)
  have g1 : (BitVec.ofInt 64 (x : Int)).toNat = x := by
    rw [BitVec.ofInt_natCast, BitVec.toNat_ofNat]; exact Nat.mod_eq_of_lt (by omega)
  have g2 : (BitVec.ofInt 64 (y : Int)).toNat = y := by
    rw [BitVec.ofInt_natCast, BitVec.toNat_ofNat]; exact Nat.mod_eq_of_lt (by omega)
  have e : Go.bits .xor .i64 (x : Int) (y : Int) = ((x ^^^ y : Nat) : Int) := by
    show IntKind.i64.wrap ((BitVec.ofInt 64 (x : Int) ^^^ BitVec.ofInt 64 (y : Int)).toNat : Int) = _
    rw [BitVec.toNat_xor, g1, g2, IntKind.wrap_i64]
    omega
  rw [e]
  omega
theorem tmod_range {a n : Int} (h0 : 0 ≤ a) (hn : 1 ≤ n) : 0 ≤ Int.tmod a n ∧ Int.tmod a n < n := by
  rw [Int.tmod_eq_emod_of_nonneg h0]
  exact ⟨Int.emod_nonneg _ (by omega), Int.emod_lt_of_pos _ (by omega)⟩
theorem pick_ok {b : List Int} (hb : Code b) (p n : Int) (h0 : 0 ≤ p) (h1 : p ≤ 1000000000000) (hn : n ≤ 1000000) :
    ∃ v, spec_l20Rd_pick.fL b p n = some (v, p + 1) ∧ 0 ≤ v ∧ (1 ≤ n → v < n) ∧ (n < 1 → v = 0) := by
  rw [spec_l20Rd_pick.fL_eq, spec_l20Rd_pick.j0L_eq, spec_l20Rd_pick.j0L_eq, w64 (n := p + 1) (by omega) (by omega), w64 (n := p + 1 - 1) (by omega) (by omega), show p + 1 - 1 = p by omega]
  by_cases e : n < 1
  · rw [if_pos e, if_pos rfl]; exact ⟨0, rfl, by omega, fun h => by omega, fun _ => rfl⟩
  · rw [if_neg e]
    by_cases e0 : (b.length : Int) = 0
    · rw [if_pos (by simpa using e0)]; exact ⟨0, rfl, by omega, fun h => by omega, fun _ => rfl⟩
    · rw [if_neg (by simpa using e0)]
      by_cases e1 : p < b.length
      · have hr := hb.get p (by omega)
        rw [if_pos e1, if_pos h0, if_neg (by omega), w64 (n := rd b p) (by omega) (by omega)]
        have := tmod_range hr.1 (n := n) (by omega)
        exact ⟨_, rfl, this.1, fun _ => this.2, fun h => by omega⟩
      · have hl := hb.1
        have t1 := tmod_range h0 (n := (b.length : Int)) (by omega)
        have t2 := tmod_range (a := p * 7 + 3) (by omega) (n := (b.length : Int)) (by omega)
        have r1 := hb.get (Int.tmod p b.length) (by omega)
        have r2 := hb.get (Int.tmod (p * 7 + 3) b.length) (by omega)
        have td : Int.tdiv p b.length = p / b.length := Int.tdiv_eq_ediv_of_nonneg h0
        have d0 : 0 ≤ p / (b.length : Int) := Int.ediv_nonneg h0 (by omega)
        have d1 : p / (b.length : Int) ≤ p := Int.ediv_le_self _ h0
        rw [if_neg e1, if_neg e0, w64 (n := p * 7) (by omega) (by omega), w64 (n := p * 7 + 3) (by omega) (by omega), if_pos t1.1, if_pos t1.2, if_pos t2.1, if_pos t2.2, if_neg (by omega)]
        generalize rd b (Int.tmod p b.length) = A at *
        generalize rd b (Int.tmod (p * 7 + 3) b.length) = B at *
        rw [td]
        generalize p / (b.length : Int) = D at *
        rw [w64 (n := A) (by omega) (by omega), w64 (n := B) (by omega) (by omega), w64 (n := D) (by omega) (by omega), w64 (n := A * 131) (by omega) (by omega), w64 (n := B * 1117) (by omega) (by omega), w64 (n := p * 29) (by omega) (by omega), w64 (n := D * 53) (by omega) (by omega),
          w64 (n := A * 131 + B * 1117) (by omega) (by omega), w64 (n := A * 131 + B * 1117 + p * 29) (by omega) (by omega), w64 (n := A * 131 + B * 1117 + p * 29 + D * 53) (by omega) (by omega)]
        generalize hX : A * 131 + B * 1117 + p * 29 + D * 53 = X
        have q0 : 0 ≤ X := by omega
        have q1 : X ≤ 1000000000000000 := by omega
        have e64 : Int.tdiv X 64 = X / 64 := Int.tdiv_eq_ediv_of_nonneg q0
        rw [e64, w64 (n := X / 64) (by omega) (by omega)]
        have hx := xor_range X (X / 64) q0 (by omega) (by omega) (by omega)
        have := tmod_range hx.1 (n := n) (by omega)
        exact ⟨_, rfl, this.1, fun _ => this.2, fun h => by omega⟩

/-! #### odd -/
theorem odd_ok {b : List Int} (hb : Code b) (p n : Int) (h0 : 0 ≤ p) (h1 : p ≤ 1000000000000) (hn : n ≤ 1000000) :
    ∃ v q, spec_l20Rd_odd.fL b p n = some (v, q) ∧ p ≤ q ∧ q ≤ p + 1 := by
  rw [spec_l20Rd_odd.fL_eq]
  by_cases e : n > 0
  · obtain ⟨v, hv, _⟩ := pick_ok hb p n h0 h1 hn
    rw [if_pos e, hv]
    exact ⟨_, _, rfl, by dsimp only; omega, by dsimp only; omega⟩
  · rw [if_neg e]
    exact ⟨_, _, rfl, by omega, by omega⟩

/-! #### lits -/
theorem rd_mem {xs : List Int} {i : Int} (h0 : 0 ≤ i) (h1 : i < xs.length) : rd xs i ∈ xs := by
  unfold rd
  rw [List.getD_eq_getElem?_getD, List.getElem?_eq_getElem (show i.toNat < xs.length by omega)]
  exact List.getElem_mem _
theorem rdOf_mem {α : Type} {d : α} {xs : List α} {i : Int} (h0 : 0 ≤ i) (h1 : i < xs.length) : rdOf d xs i ∈ xs := by
  unfold rdOf
  rw [List.getD_eq_getElem?_getD, List.getElem?_eq_getElem (show i.toNat < xs.length by omega)]
  exact List.getElem_mem _
theorem strOfNums_len (xs : List Int) : (strOfNums xs).size = xs.length := by simp [strOfNums, ByteArray.size]

/-! #### l20Key -/
theorem l20Key_l0 {b : List Int} (hb : Code b) : ∀ (m : Nat) (s : ByteArray) (n p : Int), n = m → s.size + m ≤ 1000 → 0 ≤ p → p + m ≤ 1000000000 → ∃ r q, spec_l20Key.l0L s n b p = some (r, q) ∧ p ≤ q ∧ q ≤ p + m ∧ r.size ≤ s.size + m
  | 0, s, n, p, h, hs, hp, hp2 => by rw [spec_l20Key.l0L_eq, if_neg (by omega)]; exact ⟨_, _, rfl, by omega, by omega, by omega⟩
  | m + 1, s, n, p, h, hs, hp, hp2 => by
    obtain ⟨v, hv, v0, v1, _⟩ := pick_ok hb p 4 hp (by omega) (by omega)
    rw [spec_l20Key.l0L_eq, if_pos (by omega), hv, Option.bind_some, Option.bind_some, if_pos (by rw [strOfNums_len]; simp; omega), w64 (n := n - 1) (by omega) (by omega)]
    obtain ⟨r, q, hr, q0, q1, hrs⟩ := l20Key_l0 hb m (s ++ strOfNums [(wrap64 (97 + v)) % 256]) (n - 1) (p + 1) (by omega) (by rw [ByteArray.size_append, strOfNums_len]; simp; omega) (by omega) (by omega)
    refine ⟨r, q, hr, by omega, by omega, ?_⟩
    rw [ByteArray.size_append, strOfNums_len] at hrs
    simp at hrs
    omega
theorem l20Key_ok {b : List Int} (hb : Code b) (p n : Int) (hp : 0 ≤ p) (hp2 : p ≤ 100000000) (hn : n ≤ 1000000) : ∃ r q, spec_l20Key.fL b p n = some (r, q) ∧ p ≤ q ∧ q ≤ p + 5 ∧ r.size ≤ 5 := by
  obtain ⟨o, q1, ho, o0, o1⟩ := odd_ok hb p n hp (by omega) hn
  rw [spec_l20Key.fL_eq, ho, Option.bind_some]
  dsimp only
  cases o with
  | true =>
    obtain ⟨v, hv, v0, v1, _⟩ := pick_ok hb q1 6 (by omega) (by omega) (by omega)
    have v1 := v1 (by omega)
    rw [if_pos rfl, Option.bind_some, hv, Option.bind_some]
    dsimp only
    rw [if_pos v0, if_pos (by simp; omega)]
    refine ⟨_, _, rfl, by omega, by omega, ?_⟩
    exact (show ∀ s ∈ ([(⟨#[]⟩ : ByteArray), (⟨#[65]⟩ : ByteArray), (⟨#[97, 49]⟩ : ByteArray), (⟨#[97, 98, 99, 100, 101]⟩ : ByteArray), (⟨#[98, 123]⟩ : ByteArray), (⟨#[97, 32, 98]⟩ : ByteArray)] : List ByteArray), s.size ≤ 5 by decide) _ (rdOf_mem v0 (by simp; omega))
  | false =>
    obtain ⟨v, hv, v0, v1, _⟩ := pick_ok hb q1 12 (by omega) (by omega) (by omega)
    rw [if_neg (by simp), hv, Option.bind_some]
    dsimp only
    by_cases e : v = 11
    · obtain ⟨u, hu, u0, u1, _⟩ := pick_ok hb (q1 + 1) 5 (by omega) (by omega) (by omega)
      have u1 := u1 (by omega)
      rw [if_pos e, Option.bind_some, hu, Option.bind_some]
      dsimp only
      rw [if_pos u0, if_pos (by simp; omega)]
      refine ⟨_, _, rfl, by omega, by omega, ?_⟩
      exact (show ∀ s ∈ ([(⟨#[122, 122, 122, 122]⟩ : ByteArray), (⟨#[122, 122, 122]⟩ : ByteArray), (⟨#[97, 122, 122, 122]⟩ : ByteArray), (⟨#[122]⟩ : ByteArray), (⟨#[97, 97, 97, 97]⟩ : ByteArray)] : List ByteArray), s.size ≤ 5 by decide) _ (rdOf_mem u0 (by simp; omega))
    · obtain ⟨u, hu, u0, u1, _⟩ := pick_ok hb (q1 + 1) 2 (by omega) (by omega) (by omega)
      have u1 := u1 (by omega)
      rw [if_neg e, hu, Option.bind_some]
      dsimp only
      rw [w64 (by omega) (by omega)]
      obtain ⟨r, q, hr, r0, r1, rs⟩ := l20Key_l0 hb (1 + u).toNat (⟨#[]⟩ : ByteArray) (1 + u) (q1 + 1 + 1) (by omega) (by show 0 + _ ≤ 1000; omega) (by omega) (by omega)
      refine ⟨r, q, hr, by omega, by omega, ?_⟩
      have : (⟨#[]⟩ : ByteArray).size = 0 := rfl
      omega

/-! #### l20Value -/
theorem l20Value_ok {b : List Int} (hb : Code b) (p n : Int) (hp : 0 ≤ p) (hp2 : p ≤ 100000000) (hn : n ≤ 1000000) : ∃ r q, spec_l20Value.fL b p n = some (r, q) ∧ p ≤ q ∧ q ≤ p + 3 ∧ -1 ≤ r ∧ r ≤ 1000 := by
  obtain ⟨o, q1, ho, o0, o1⟩ := odd_ok hb p n hp (by omega) hn
  rw [spec_l20Value.fL_eq, ho, Option.bind_some]
  dsimp only
  cases o with
  | true =>
    obtain ⟨v, hv, v0, v1, _⟩ := pick_ok hb q1 2 (by omega) (by omega) (by omega)
    have v1 := v1 (by omega)
    rw [if_pos rfl, Option.bind_some, hv, Option.bind_some]
    dsimp only
    rw [if_pos v0, if_pos (by simp; omega)]
    have := (show ∀ s ∈ ([(-1), 1000] : List Int), -1 ≤ s ∧ s ≤ 1000 by decide) _ (rd_mem v0 (by simp; omega))
    exact ⟨_, _, rfl, by omega, by omega, this.1, this.2⟩
  | false =>
    obtain ⟨v, hv, v0, v1, _⟩ := pick_ok hb q1 20 (by omega) (by omega) (by omega)
    have v1 := v1 (by omega)
    obtain ⟨u, hu, u0, u1, _⟩ := pick_ok hb (q1 + 1) 9 (by omega) (by omega) (by omega)
    have u1 := u1 (by omega)
    have hd : Int.tdiv u 8 = u / 8 := Int.tdiv_eq_ediv_of_nonneg u0
    rw [if_neg (by simp), hv, Option.bind_some]
    dsimp only
    rw [Option.bind_some, hu, Option.bind_some]
    dsimp only
    rw [hd, w64 (n := u / 8) (by omega) (by omega), if_pos (by omega), if_pos (by simp; omega)]
    have hm : rd [v, 999] (u / 8) ∈ [v, 999] := rd_mem (by omega) (by simp; omega)
    have : -1 ≤ rd [v, 999] (u / 8) ∧ rd [v, 999] (u / 8) ≤ 1000 := by
      simp only [List.mem_cons, List.not_mem_nil, or_false] at hm
      rcases hm with e | e <;> rw [e] <;> omega
    exact ⟨_, _, rfl, by omega, by omega, this.1, this.2⟩

/-! #### l20Cmd -/
theorem rdCmd_mem {xs : List S30} {i : Int} (h0 : 0 ≤ i) (h1 : i < xs.length) : rd_T30 xs i ∈ xs := by
  unfold rd_T30
  rw [List.getD_eq_getElem?_getD, List.getElem?_eq_getElem (show i.toNat < xs.length by omega)]
  exact List.getElem_mem _
theorem l20Cmd_j0 {b : List Int} (hb : Code b) (s : ByteArray) (hs : s.size ≤ 10) (p : Int) (hp : 0 ≤ p) (hp2 : p ≤ 99000000) : ∃ k s' v o q, spec_l20Cmd.j0L s b p = some (k, s', v, o, q) ∧ p ≤ q ∧ q ≤ p + 6 ∧ s'.size ≤ 10 ∧ 0 ≤ k ∧ k ≤ 6 ∧ -10 ≤ v ∧ v ≤ 1000 ∧ -10 ≤ o ∧ o ≤ 1000 := by
  obtain ⟨c, hc, c0, c1, _⟩ := pick_ok hb p 8 hp (by omega) (by omega)
  rw [spec_l20Cmd.j0L_eq, hc, Option.bind_some]
  dsimp only
  by_cases e0 : c = 0
  · rw [if_pos e0]; exact ⟨_, _, _, _, _, rfl, by omega, by omega, hs, by omega, by omega, by omega, by omega, by omega, by omega⟩
  · rw [if_neg e0]
    by_cases e1 : c = 1
    · rw [if_pos e1]; exact ⟨_, _, _, _, _, rfl, by omega, by omega, hs, by omega, by omega, by omega, by omega, by omega, by omega⟩
    · rw [if_neg e1]
      by_cases e2 : c = 2
      · obtain ⟨v, hv, v0, v1, _⟩ := pick_ok hb (p + 1) 5 (by omega) (by omega) (by omega)
        obtain ⟨u, hu, u0, u1, _⟩ := pick_ok hb (p + 1 + 1) 5 (by omega) (by omega) (by omega)
        have v1 := v1 (by omega)
        have u1 := u1 (by omega)
        rw [if_pos e2, hv, Option.bind_some]
        dsimp only
        rw [hu, Option.bind_some]
        dsimp only
        rw [w64 (by omega) (by omega)]
        exact ⟨_, _, _, _, _, rfl, by omega, by omega, hs, by omega, by omega, by omega, by omega, by omega, by omega⟩
      · obtain ⟨v, q, hv, q0, q1, v0, v1⟩ := l20Value_ok hb (p + 1) 0 (by omega) (by omega) (by omega)
        rw [if_neg e2, hv, Option.bind_some]
        have t := Int.tmod_add_mul_tdiv v 1000
        have t1 : -1000 < Int.tmod v 1000 := Int.lt_tmod_of_pos v (by omega)
        have t2 : Int.tmod v 1000 < 1000 := Int.tmod_lt_of_pos v (by omega)
        have t3 : -10 ≤ Int.tmod v 1000 := by
          by_cases hv0 : 0 ≤ v
          · have := Int.tmod_nonneg 1000 hv0; omega
          · have : v = -1 := by omega
            subst this; decide
        exact ⟨_, _, _, _, _, rfl, by dsimp only; omega, by dsimp only; omega, hs, by omega, by omega, by dsimp only; omega, by dsimp only; omega, by omega, by omega⟩
theorem l20Cmd_ok {b : List Int} (hb : Code b) (p n : Int) (hp : 0 ≤ p) (hp2 : p ≤ 90000000) (hn : n ≤ 1000000) : ∃ k s v o q, spec_l20Cmd.fL b p n = some (k, s, v, o, q) ∧ p ≤ q ∧ q ≤ p + 14 ∧ s.size ≤ 10 ∧ 0 ≤ k ∧ k ≤ 6 ∧ -10 ≤ v ∧ v ≤ 1000 ∧ -10 ≤ o ∧ o ≤ 1000 := by
  obtain ⟨o, q1, ho, o0, o1⟩ := odd_ok hb p n hp (by omega) hn
  rw [spec_l20Cmd.fL_eq, ho, Option.bind_some]
  dsimp only
  cases o with
  | true =>
    obtain ⟨v, hv, v0, v1, _⟩ := pick_ok hb q1 10 (by omega) (by omega) (by omega)
    have v1 := v1 (by omega)
    rw [if_pos rfl, Option.bind_some, hv, Option.bind_some]
    dsimp only
    rw [if_pos v0, if_pos (by simp; omega)]
    have hm : ∀ x ∈ ([(⟨0, (⟨#[]⟩ : ByteArray), 0, 0⟩ : S30), (⟨1, (⟨#[]⟩ : ByteArray), 0, 0⟩ : S30), (⟨1, (⟨#[98]⟩ : ByteArray), 1, 0⟩ : S30), (⟨2, (⟨#[98]⟩ : ByteArray), 1000, 0⟩ : S30), (⟨2, (⟨#[98]⟩ : ByteArray), 0, 1⟩ : S30), (⟨4, (⟨#[98]⟩ : ByteArray), 0, (-2)⟩ : S30), (⟨4, (⟨#[98]⟩ : ByteArray), (-1), 0⟩ : S30), (⟨6, (⟨#[98]⟩ : ByteArray), 0, 0⟩ : S30), (⟨3, (⟨#[65]⟩ : ByteArray), 0, 0⟩ : S30), (⟨5, (⟨#[98, 49]⟩ : ByteArray), 0, 0⟩ : S30)] : List S30), x.f1.size ≤ 10 ∧ 0 ≤ x.f0 ∧ x.f0 ≤ 6 ∧ -10 ≤ x.f2 ∧ x.f2 ≤ 1000 ∧ -10 ≤ x.f3 ∧ x.f3 ≤ 1000 := by
      intro x hx
      simp only [List.mem_cons, List.not_mem_nil, or_false] at hx
      rcases hx with rfl | rfl | rfl | rfl | rfl | rfl | rfl | rfl | rfl | rfl <;> decide
    have := hm _ (rdCmd_mem v0 (by simp; omega))
    exact ⟨_, _, _, _, _, rfl, by omega, by omega, this⟩
  | false =>
    obtain ⟨s, q2, hs, s0, s1, sl⟩ := l20Key_ok hb q1 0 (by omega) (by omega) (by omega)
    obtain ⟨v, hv, v0, v1, _⟩ := pick_ok hb q2 2 (by omega) (by omega) (by omega)
    have v1 := v1 (by omega)
    rw [if_neg (by simp), hs, Option.bind_some]
    dsimp only
    rw [hv, Option.bind_some]
    dsimp only
    by_cases e : v = 0
    · obtain ⟨u, hu, u0, u1, _⟩ := pick_ok hb (q2 + 1) 4 (by omega) (by omega) (by omega)
      have u1 := u1 (by omega)
      rw [if_pos e, Option.bind_some, hu, Option.bind_some]
      dsimp only
      rw [if_pos u0, if_pos (by simp; omega)]
      have hsz := (show ∀ s ∈ ([(⟨#[98]⟩ : ByteArray), (⟨#[99]⟩ : ByteArray), (⟨#[100]⟩ : ByteArray), (⟨#[109]⟩ : ByteArray)] : List ByteArray), s.size ≤ 10 by decide) _ (rdOf_mem (d := ByteArray.empty) u0 (by simp; omega))
      obtain ⟨k, s', v', o', q, hq, h1, h2, h3⟩ := l20Cmd_j0 hb _ hsz (q2 + 1 + 1) (by omega) (by omega)
      exact ⟨k, s', v', o', q, hq, by omega, by omega, h3⟩
    · rw [if_neg e]
      obtain ⟨k, s', v', o', q, hq, h1, h2, h3⟩ := l20Cmd_j0 hb s (by omega) (q2 + 1) (by omega) (by omega)
      exact ⟨k, s', v', o', q, hq, by omega, by omega, h3⟩

/-! #### l20Any -/
theorem l20Any_ok {b : List Int} (hb : Code b) (p n : Int) (hp : 0 ≤ p) (hp2 : p ≤ 80000000) (hn : n ≤ 1000000) : ∃ k s v o q, spec_l20Any.fL b p n = some (k, s, v, o, q) ∧ p ≤ q ∧ q ≤ p + 24 ∧ s.size ≤ 10 ∧ 0 ≤ k ∧ k ≤ 6 ∧ -10 ≤ v ∧ v ≤ 1000 ∧ -10 ≤ o ∧ o ≤ 1000 := by
  obtain ⟨k, s, v, o, q, hq, q0, q1, hs, hk⟩ := l20Cmd_ok hb p n hp (by omega) hn
  obtain ⟨c, hc, c0, c1, _⟩ := pick_ok hb q 5 (by omega) (by omega) (by omega)
  rw [spec_l20Any.fL_eq, hq, Option.bind_some]
  dsimp only
  rw [hc, Option.bind_some]
  dsimp only
  by_cases e : c = 0
  · obtain ⟨t, q2, ht, t0, t1, tl⟩ := l20Key_ok hb (q + 1) 0 (by omega) (by omega) (by omega)
    obtain ⟨u, hu, u0, u1, _⟩ := pick_ok hb q2 4 (by omega) (by omega) (by omega)
    have u1 := u1 (by omega)
    rw [if_pos e, ht, Option.bind_some]
    dsimp only
    rw [Option.bind_some, hu, Option.bind_some]
    dsimp only
    rw [if_pos u0, if_pos (by simp; omega)]
    have hm : rdOf ByteArray.empty [(⟨#[]⟩ : ByteArray), (⟨#[98]⟩ : ByteArray), (⟨#[99]⟩ : ByteArray), t] u ∈ [(⟨#[]⟩ : ByteArray), (⟨#[98]⟩ : ByteArray), (⟨#[99]⟩ : ByteArray), t] := rdOf_mem u0 (by simp; omega)
    have hsz : (rdOf ByteArray.empty [(⟨#[]⟩ : ByteArray), (⟨#[98]⟩ : ByteArray), (⟨#[99]⟩ : ByteArray), t] u).size ≤ 10 := by
      simp only [List.mem_cons, List.not_mem_nil, or_false] at hm
      rcases hm with e | e | e | e
      · rw [e]; decide
      · rw [e]; decide
      · rw [e]; decide
      · rw [e]; omega
    exact ⟨_, _, _, _, _, rfl, by omega, by omega, hsz, by omega, by omega, by omega, by omega, by omega, by omega⟩
  · rw [if_neg e]; exact ⟨_, _, _, _, _, rfl, by omega, by omega, hs, hk⟩

/-! #### l20Reply -/
theorem l20Reply_ok {b : List Int} (hb : Code b) (p n : Int) (hp : 0 ≤ p) (hp2 : p ≤ 100000000) (hn : n ≤ 1000000) : ∃ r q, spec_l20Reply.fL b p n = some (r, q) ∧ p ≤ q ∧ q ≤ p + 3 ∧ -5 ≤ r ∧ r ≤ 1000 := by
  obtain ⟨o, q1, ho, o0, o1⟩ := odd_ok hb p n hp (by omega) hn
  rw [spec_l20Reply.fL_eq, ho, Option.bind_some]
  dsimp only
  cases o with
  | true =>
    obtain ⟨v, hv, v0, v1, _⟩ := pick_ok hb q1 2 (by omega) (by omega) (by omega)
    have v1 := v1 (by omega)
    rw [if_pos rfl, Option.bind_some, hv, Option.bind_some]
    dsimp only
    rw [if_pos v0, if_pos (by simp; omega)]
    have := (show ∀ s ∈ ([(-5), 1000] : List Int), -5 ≤ s ∧ s ≤ 1000 by decide) _ (rd_mem v0 (by simp; omega))
    exact ⟨_, _, rfl, by omega, by omega, this.1, this.2⟩
  | false =>
    obtain ⟨v, hv, v0, v1, _⟩ := pick_ok hb q1 256 (by omega) (by omega) (by omega)
    have v1 := v1 (by omega)
    obtain ⟨u, hu, u0, u1, _⟩ := pick_ok hb (q1 + 1) 7 (by omega) (by omega) (by omega)
    have u1 := u1 (by omega)
    rw [if_neg (by simp), hv, Option.bind_some]
    dsimp only
    rw [Option.bind_some, hu, Option.bind_some]
    dsimp only
    rw [w64 (n := v * 3) (by omega) (by omega), if_pos u0, if_pos (by simp; omega)]
    have hm : rd [-1, -2, -3, -4, v * 3, 999, 0] u ∈ [-1, -2, -3, -4, v * 3, 999, 0] := rd_mem u0 (by simp; omega)
    have : -5 ≤ rd [-1, -2, -3, -4, v * 3, 999, 0] u ∧ rd [-1, -2, -3, -4, v * 3, 999, 0] u ≤ 1000 := by
      simp only [List.mem_cons, List.not_mem_nil, or_false] at hm
      rcases hm with e | e | e | e | e | e | e <;> rw [e] <;> omega
    exact ⟨_, _, rfl, by omega, by omega, this.1, this.2⟩

/-! #### spec_ApplyCommand -/
theorem spec_ApplyCommand_j1 (l y : List S181) (g : Int) (b : Bool) (k : Int) (s : ByteArray) (v o : Int) (hl : l.length ≤ 1000000) (hy : y.length ≤ 48) : ∃ r x, spec_ApplyCommand.j1L l y g b k s v o = some (r, x) ∧ r.length ≤ 48 := by
  rw [spec_ApplyCommand.j1L_eq, spec_PairDrop_f l s (by omega), spec_PairPut_f l s v (by omega)]
  cases b with
  | true => exact ⟨_, _, if_pos rfl, hy⟩
  | false =>
    rw [if_neg (by simp)]
    by_cases h3 : k = 3
    · rw [if_pos h3]; exact ⟨_, _, rfl, pairDrop_length _ _⟩
    · rw [if_neg h3]
      by_cases h4 : g < 0
      · rw [if_pos h4]
        by_cases h5 : (l.length : Int) ≥ 8
        · rw [if_pos h5]; exact ⟨_, _, rfl, hy⟩
        · rw [if_neg h5]; exact ⟨_, _, rfl, pairPut_length _ _ _⟩
      · rw [if_neg h4]; exact ⟨_, _, rfl, pairPut_length _ _ _⟩
theorem spec_ApplyCommand_j0 (l : List S181) (b : Bool) (k : Int) (s : ByteArray) (v o : Int) (hl : l.length ≤ 48) : ∃ r x, spec_ApplyCommand.j0L l b k s v o = some (r, x) ∧ r.length ≤ 48 := by
  rw [spec_ApplyCommand.j0L_eq]
  cases b with
  | true => exact ⟨_, _, if_pos rfl, by simp⟩
  | false =>
    rw [if_neg (by simp), Option.bind_some, if_pos (by simp; omega), Option.bind_some, spec_PairGet_f l s (by omega), Option.bind_some]
    split
    · exact spec_ApplyCommand_j1 _ _ _ _ _ _ _ _ (by omega) (by simpa using hl)
    · split
      · exact spec_ApplyCommand_j1 _ _ _ _ _ _ _ _ (by omega) (by simpa using hl)
      · exact spec_ApplyCommand_j1 _ _ _ _ _ _ _ _ (by omega) (by simpa using hl)
theorem spec_ApplyCommand_ok (l : List S181) (k : Int) (s : ByteArray) (v o : Int) (hl : l.length ≤ 48) : ∃ r x, spec_ApplyCommand.fL l k s v o = some (r, x) ∧ r.length ≤ 48 := by
  rw [spec_ApplyCommand.fL_eq, spec_PairsValid_f, Option.bind_some, spec_CommandValid_f, Option.bind_some]
  split
  · split
    · exact spec_ApplyCommand_j0 _ _ _ _ _ _ hl
    · exact spec_ApplyCommand_j0 _ _ _ _ _ _ hl
  · exact spec_ApplyCommand_j0 _ _ _ _ _ _ hl

/-! #### l20Results -/
theorem l20Results_j4 {b : List Int} (hb : Code b) (n : Int) (hn : n ≤ 1000000) (out : List S32) (p : Int) (hp : 0 ≤ p) (hp2 : p ≤ 70000000) (ho : out.length ≤ 5) : ∃ r q, spec_l20Results.j4L n out b p = some (r, q) ∧ p ≤ q ∧ q ≤ p + 30 ∧ r.length ≤ 6 := by
  obtain ⟨o, q1, ho1, o0, o1⟩ := odd_ok hb p n hp (by omega) hn
  rw [spec_l20Results.j4L_eq, ho1, Option.bind_some]
  dsimp only
  cases o with
  | false => rw [if_neg (by simp)]; exact ⟨_, _, rfl, by omega, by omega, by omega⟩
  | true =>
    obtain ⟨c, hc, c0, c1, _⟩ := pick_ok hb q1 4 (by omega) (by omega) (by omega)
    obtain ⟨k, s, v, o, q, hq, h1, h2, _⟩ := l20Any_ok hb (q1 + 1) 0 (by omega) (by omega) (by omega)
    obtain ⟨d, hd, d0, d1, _⟩ := pick_ok hb q 2 (by omega) (by omega) (by omega)
    rw [if_pos rfl, hc, Option.bind_some]
    dsimp only
    rw [hq, Option.bind_some]
    dsimp only
    rw [hd, Option.bind_some]
    dsimp only
    rw [if_pos (by omega)]
    exact ⟨_, _, rfl, by omega, by omega, by simp; omega⟩
theorem l20Results_j3 {b : List Int} (hb : Code b) (n : Int) (hn : n ≤ 1000000) (out : List S32) (c : Bool) (p : Int) (hp : 0 ≤ p) (hp2 : p ≤ 60000000) (ho : out.length ≤ 5) (hc : c = true → 1 ≤ out.length) : ∃ r q, spec_l20Results.j3L n out c b p = some (r, q) ∧ p ≤ q ∧ q ≤ p + 40 ∧ r.length ≤ 6 := by
  rw [spec_l20Results.j3L_eq]
  cases c with
  | false =>
    rw [if_neg (by simp)]
    obtain ⟨r, q, hr, h1, h2, h3⟩ := l20Results_j4 hb n hn out p hp (by omega) ho
    exact ⟨r, q, hr, by omega, by omega, h3⟩
  | true =>
    have hc := hc rfl
    obtain ⟨u, hu, u0, u1, _⟩ := pick_ok hb p (out.length : Int) hp (by omega) (by omega)
    have u1 := u1 (by omega)
    obtain ⟨x, q1, hx, x0, x1, _⟩ := l20Reply_ok hb (p + 1) 0 (by omega) (by omega) (by omega)
    rw [if_pos rfl, hu, Option.bind_some]
    dsimp only
    rw [hx, Option.bind_some]
    dsimp only
    rw [if_pos u0, if_pos u1]
    obtain ⟨r, q, hr, h1, h2, h3⟩ := l20Results_j4 hb n hn (out.set u.toNat ⟨(rd_T32 out u).f0, (rd_T32 out u).f1, ⟨(rd_T32 out u).f2.f0, (rd_T32 out u).f2.f1, (rd_T32 out u).f2.f2, (rd_T32 out u).f2.f3⟩, x, (rd_T32 out u).f4, (rd_T32 out u).f5⟩) q1 (by omega) (by omega) (by simpa using ho)
    exact ⟨r, q, hr, by omega, by omega, h3⟩
theorem l20Results_j2 {b : List Int} (hb : Code b) (n : Int) (hn : n ≤ 1000000) (out : List S32) (p : Int) (hp : 0 ≤ p) (hp2 : p ≤ 50000000) (ho : out.length ≤ 5) : ∃ r q, spec_l20Results.j2L n out b p = some (r, q) ∧ p ≤ q ∧ q ≤ p + 50 ∧ r.length ≤ 6 := by
  rw [spec_l20Results.j2L_eq]
  by_cases e : (out.length : Int) > 0
  · obtain ⟨u, hu, u0, u1, _⟩ := pick_ok hb p 4 hp (by omega) (by omega)
    rw [if_pos e, hu, Option.bind_some]
    dsimp only
    obtain ⟨r, q, hr, h1, h2, h3⟩ := l20Results_j3 hb n hn out (u == 0) (p + 1) (by omega) (by omega) ho (fun _ => by omega)
    exact ⟨r, q, hr, by omega, by omega, h3⟩
  · rw [if_neg e]
    obtain ⟨r, q, hr, h1, h2, h3⟩ := l20Results_j3 hb n hn out false p hp (by omega) ho (fun h => by cases h)
    exact ⟨r, q, hr, by omega, by omega, h3⟩
theorem l20Results_j1 {b : List Int} (hb : Code b) (n : Int) (hn : n ≤ 1000000) (out : List S32) (c : Bool) (p : Int) (hp : 0 ≤ p) (hp2 : p ≤ 40000000) (ho : out.length ≤ 5) (hc : c = true → 1 ≤ out.length) : ∃ r q, spec_l20Results.j1L n out c b p = some (r, q) ∧ p ≤ q ∧ q ≤ p + 60 ∧ r.length ≤ 6 := by
  rw [spec_l20Results.j1L_eq]
  cases c with
  | false =>
    rw [if_neg (by simp)]
    obtain ⟨r, q, hr, h1, h2, h3⟩ := l20Results_j2 hb n hn out p hp (by omega) ho
    exact ⟨r, q, hr, by omega, by omega, h3⟩
  | true =>
    have hc := hc rfl
    obtain ⟨u, hu, u0, u1, _⟩ := pick_ok hb p (out.length : Int) hp (by omega) (by omega)
    have u1 := u1 (by omega)
    rw [if_pos rfl, hu, Option.bind_some]
    dsimp only
    rw [if_pos (by omega), if_pos u0, if_pos u1]
    generalize hz : ((out.set (0 : Int).toNat _).set u.toNat _) = zs
    have hzl : zs.length ≤ 5 := by rw [← hz]; simpa using ho
    obtain ⟨r, q, hr, h1, h2, h3⟩ := l20Results_j2 hb n hn zs (p + 1) (by omega) (by omega) hzl
    exact ⟨r, q, hr, by omega, by omega, h3⟩
theorem l20Results_l0 {b : List Int} (hb : Code b) (n : Int) (hn : n ≤ 1000000) : ∀ (m : Nat) (out : List S32) (ps : List S181) (a i p : Int), i = m → out.length + m ≤ 5 → ps.length ≤ 48 → 0 ≤ a → a + m ≤ 1000 → 0 ≤ p → p + 20 * m ≤ 30000000 → ∃ r q, spec_l20Results.l0L n out ps a i b p = some (r, q) ∧ p ≤ q ∧ q ≤ p + 20 * m + 70 ∧ r.length ≤ 6
  | 0, out, ps, a, i, p, hi, ho, hps, ha, ha2, hp, hp2 => by
    rw [spec_l20Results.l0L_eq, if_neg (by omega)]
    by_cases e : (out.length : Int) > 1
    · obtain ⟨u, hu, u0, u1, _⟩ := pick_ok hb p 2 hp (by omega) (by omega)
      rw [if_pos e, hu, Option.bind_some]
      dsimp only
      obtain ⟨r, q, hr, h1, h2, h3⟩ := l20Results_j1 hb n hn out (u == 0) (p + 1) (by omega) (by omega) (by omega) (fun _ => by omega)
      exact ⟨r, q, hr, by omega, by omega, h3⟩
    · rw [if_neg e]
      obtain ⟨r, q, hr, h1, h2, h3⟩ := l20Results_j1 hb n hn out false p hp (by omega) (by omega) (fun h => by cases h)
      exact ⟨r, q, hr, by omega, by omega, h3⟩
  | m + 1, out, ps, a, i, p, hi, ho, hps, ha, ha2, hp, hp2 => by
    obtain ⟨k, s, v, o, q1, hq1, q10, q11, _⟩ := l20Cmd_ok hb p 0 hp (by omega) (by omega)
    obtain ⟨c, hc, c0, c1, _⟩ := pick_ok hb q1 4 (by omega) (by omega) (by omega)
    have c1 := c1 (by omega)
    have hd : Int.tdiv c 3 = c / 3 := Int.tdiv_eq_ediv_of_nonneg c0
    rw [spec_l20Results.l0L_eq, if_pos (by omega), hq1, Option.bind_some]
    dsimp only
    rw [Option.bind_some, hc, Option.bind_some]
    dsimp only
    rw [hd, w64 (n := c / 3) (by omega) (by omega), if_pos (by omega), if_pos (by simp; omega)]
    obtain ⟨ps', x, hx, hpl⟩ := spec_ApplyCommand_ok ps k (rdOf ByteArray.empty [(⟨#[98]⟩ : ByteArray), (⟨#[99]⟩ : ByteArray)] (c / 3)) v o hps
    obtain ⟨d, hd1, d0, d1, _⟩ := pick_ok hb (q1 + 1) 4 (by omega) (by omega) (by omega)
    obtain ⟨e, he, e0, e1, _⟩ := pick_ok hb (q1 + 1 + 1) 3 (by omega) (by omega) (by omega)
    obtain ⟨f, hf, f0, f1, _⟩ := pick_ok hb (q1 + 1 + 1 + 1) 4 (by omega) (by omega) (by omega)
    rw [hx, Option.bind_some]
    dsimp only
    rw [hd1, Option.bind_some]
    dsimp only
    rw [he, Option.bind_some]
    dsimp only
    rw [hf, Option.bind_some]
    dsimp only
    rw [if_pos (by omega), w64 (n := a + 1) (by omega) (by omega), w64 (n := i - 1) (by omega) (by omega)]
    generalize hz : out ++ [_] = zs
    have hzl : zs.length = out.length + 1 := by rw [← hz]; simp
    obtain ⟨r, q, hr, h1, h2, h3⟩ := l20Results_l0 hb n hn m zs ps' (a + 1) (i - 1) (q1 + 1 + 1 + 1 + 1) (by omega) (by omega) hpl (by omega) (by omega) (by omega) (by omega)
    exact ⟨r, q, hr, by omega, by omega, h3⟩
theorem l20Results_ok {b : List Int} (hb : Code b) (p n : Int) (hp : 0 ≤ p) (hp2 : p ≤ 20000000) (hn : n ≤ 1000000) : ∃ r q, spec_l20Results.fL b p n = some (r, q) ∧ p ≤ q ∧ q ≤ p + 200 ∧ r.length ≤ 6 := by
  obtain ⟨v, hv, v0, v1, _⟩ := pick_ok hb p 6 hp (by omega) (by omega)
  have v1 := v1 (by omega)
  rw [spec_l20Results.fL_eq, hv, Option.bind_some]
  dsimp only
  obtain ⟨r, q, hr, h1, h2, h3⟩ := l20Results_l0 hb n hn v.toNat [] [] 1 v (p + 1) (by omega) (by simp; omega) (by simp) (by omega) (by omega) (by omega) (by omega)
  exact ⟨r, q, hr, by omega, by omega, h3⟩

/-! #### l20Order -/
theorem l20Order_l1 {b : List Int} (hb : Code b) (n c : Int) (hc : c ≤ 1000000) (hn : 0 ≤ n) (hn2 : n ≤ 100) : ∀ (m : Nat) (out : List Int) (i p : Int), i + m = n → 0 ≤ i → (out.length : Int) = n → 0 ≤ p → p + m ≤ 100000000 → ∃ r q, spec_l20Order.l1L n c out i b p = some (r, q) ∧ r.length ≤ 101 ∧ p ≤ q ∧ q ≤ p + m + 2
  | 0, out, i, p, h, h0, hl, hp, hp2 => by
    obtain ⟨v, q, hv, q0, q1⟩ := odd_ok hb p c hp (by omega) hc
    rw [spec_l20Order.l1L_eq, if_neg (by omega), hv, Option.bind_some]
    cases v with
    | true =>
      obtain ⟨u, hu, u0, u1, _⟩ := pick_ok hb q 3 (by omega) (by omega) (by omega)
      have u1 := u1 (by omega)
      rw [if_pos rfl, Option.bind_some]
      dsimp only
      rw [hu, Option.bind_some]
      dsimp only
      rw [if_pos u0, if_pos (by simp; omega), if_pos (by omega)]
      exact ⟨_, _, rfl, by simp; omega, by omega, by omega⟩
    | false => rw [if_neg (by simp)]; exact ⟨_, _, rfl, by omega, by dsimp only; omega, by dsimp only; omega⟩
  | m + 1, out, i, p, h, h0, hl, hp, hp2 => by
    obtain ⟨u, hu, u0, u1, _⟩ := pick_ok hb p n hp (by omega) (by omega)
    have u1 := u1 (by omega)
    rw [spec_l20Order.l1L_eq, if_pos (by omega), hu, Option.bind_some]
    dsimp only
    rw [if_pos h0, if_pos (by omega), if_pos u0, if_pos (by omega), w64 (by omega) (by omega)]
    obtain ⟨r, q, hr, h1, h2, h3⟩ := l20Order_l1 hb n c hc hn hn2 m ((out.set i.toNat (rd out u)).set u.toNat (rd out i)) (i + 1) (p + 1) (by omega) (by omega) (by simpa using hl) (by omega) (by omega)
    exact ⟨r, q, hr, h1, by omega, by omega⟩
theorem l20Order_l0 {b : List Int} (hb : Code b) (n c : Int) (hc : c ≤ 1000000) (hn : 0 ≤ n) (hn2 : n ≤ 100) : ∀ (m : Nat) (out : List Int) (i p : Int), i + m = n → 0 ≤ i → (out.length : Int) = i → 0 ≤ p → p ≤ 90000000 → ∃ r q, spec_l20Order.l0L n c out i b p = some (r, q) ∧ r.length ≤ 101 ∧ p ≤ q ∧ q ≤ p + 102
  | 0, out, i, p, h, h0, hl, hp, hp2 => by
    rw [spec_l20Order.l0L_eq, if_neg (by omega)]
    obtain ⟨r, q, hr, h1, h2, h3⟩ := l20Order_l1 hb n c hc hn hn2 n.toNat out 0 p (by omega) (by omega) (by omega) hp (by omega)
    exact ⟨r, q, hr, h1, by omega, by omega⟩
  | m + 1, out, i, p, h, h0, hl, hp, hp2 => by
    rw [spec_l20Order.l0L_eq, if_pos (by omega), if_pos (by omega), w64 (by omega) (by omega)]
    exact l20Order_l0 hb n c hc hn hn2 m _ (i + 1) p (by omega) (by omega) (by simp; omega) hp hp2
theorem l20Order_ok {b : List Int} (hb : Code b) (p n c : Int) (hp : 0 ≤ p) (hp2 : p ≤ 90000000) (hn : 0 ≤ n) (hn2 : n ≤ 100) (hc : c ≤ 1000000) : ∃ r q, spec_l20Order.fL b p n c = some (r, q) ∧ r.length ≤ 101 ∧ p ≤ q ∧ q ≤ p + 102 := by
  rw [spec_l20Order.fL_eq]
  exact l20Order_l0 hb n c hc hn hn2 n.toNat [] 0 p (by omega) (by omega) (by simp) hp hp2

/-! #### DrawRealTime -/
theorem drawRealTime_l0 (xs : List S32) (hx : xs.length ≤ 6) : ∀ (m : Nat) (out : List Int) (i : Int), i + m = xs.length → 0 ≤ i → (out.length : Int) = i → ∃ o, spec_DrawRealTime.l0L xs out i = some (xs, o) ∧ o.length ≤ 101
  | 0, out, i, h, h0, hl => by rw [spec_DrawRealTime.l0L_eq, if_neg (by omega)]; exact ⟨_, rfl, by omega⟩
  | m + 1, out, i, h, h0, hl => by
    rw [spec_DrawRealTime.l0L_eq, if_pos (by omega), if_pos (by omega), w64 (by omega) (by omega)]
    exact drawRealTime_l0 xs hx m _ (i + 1) (by omega) (by omega) (by simp; omega)
theorem drawRealTime {l : List Int} (hw : ∀ x ∈ l, (Lit.int .u8 x).wf = true) : ∃ xs o, spec_DrawRealTime.fL l = some (xs, o) ∧ xs.length ≤ 6 ∧ o.length ≤ 101 := by
  have hc := Code.take hw
  obtain ⟨xs, q, hx, q0, q1, hxl⟩ := l20Results_ok hc 0 12 (by omega) (by omega) (by omega)
  obtain ⟨v, hv, v0, v1, _⟩ := pick_ok hc q 3 (by omega) (by omega) (by omega)
  rw [spec_DrawRealTime.fL_eq, spec_l20Open_f, Option.bind_some]
  dsimp only
  rw [hx, Option.bind_some]
  dsimp only
  rw [hv, Option.bind_some]
  dsimp only
  by_cases e : v = 0
  · rw [if_pos e]
    obtain ⟨o, ho, hol⟩ := drawRealTime_l0 xs hxl xs.length [] 0 (by omega) (by omega) (by simp)
    exact ⟨xs, o, ho, hxl, hol⟩
  · rw [if_neg e]
    obtain ⟨o, q2, ho, hol, _⟩ := l20Order_ok hc (q + 1) (xs.length : Int) 12 (by omega) (by omega) (by omega) (by omega) (by omega)
    rw [ho, Option.bind_some]
    exact ⟨xs, o, rfl, hxl, hol⟩

/-! #### kfrom -/
/-- How many keys begin with the letters of a place, from a depth on. -/
def kfrom (d : Int) : Int := if d ≥ 4 then 1 else if d = 3 then 27 else if d = 2 then 703 else 18279
theorem kfrom_range (d : Int) : 1 ≤ kfrom d ∧ kfrom d ≤ 18279 := by unfold kfrom; split <;> (try split) <;> (try split) <;> omega

/-! #### keyrank -/
def rankBelow : List Int → Int → Int
  | [], _ => 0
  | b :: l, d => 1 + (b - 97) * kfrom d + rankBelow l (d + 1)
def keyRank (l : List Int) : Int := if keyOk l = true then rankBelow l 1 - 1 else -1
theorem impl_keysFrom_f (d : Int) (h1 : 1 ≤ d) (h2 : d ≤ 10) : impl_keysFrom.fL d = some (kfrom d) := by
  have h4 : ∀ e : Int, e ≥ 4 → impl_keysFrom.fL e = some 1 := fun e he => by rw [impl_keysFrom.fL_eq, if_pos he]
  have h3 : impl_keysFrom.fL 3 = some 27 := by
    rw [impl_keysFrom.fL_eq, if_neg (by omega), w64 (by omega) (by omega), show (3 : Int) + 1 = 4 from rfl, h4 4 (by omega)]; simp [wrap64]
  have h2' : impl_keysFrom.fL 2 = some 703 := by
    rw [impl_keysFrom.fL_eq, if_neg (by omega), w64 (by omega) (by omega), show (2 : Int) + 1 = 3 from rfl, h3]; simp [wrap64]
  have h1' : impl_keysFrom.fL 1 = some 18279 := by
    rw [impl_keysFrom.fL_eq, if_neg (by omega), w64 (by omega) (by omega), show (1 : Int) + 1 = 2 from rfl, h2']; simp [wrap64]
  unfold kfrom
  by_cases e : d ≥ 4
  · rw [h4 d e, if_pos e]
  · rw [if_neg e]
    by_cases e3 : d = 3
    · rw [if_pos e3, e3, h3]
    · rw [if_neg e3]
      by_cases e2 : d = 2
      · rw [if_pos e2, e2, h2']
      · rw [if_neg e2, show d = 1 by omega, h1']
theorem rankBelow_range : ∀ (l : List Int) (d : Int), letters l = true → 0 ≤ rankBelow l d ∧ rankBelow l d ≤ 500000 * l.length
  | [], d, _ => by simp [rankBelow]
  | b :: l, d, h => by
    obtain ⟨hb, hl⟩ := letters_cons h
    have hr := rankBelow_range l (d + 1) hl
    have hk := kfrom_range d
    have m1 : 0 ≤ (b - 97) * kfrom d := Int.mul_nonneg (by omega) (by omega)
    have m2 : (b - 97) * kfrom d ≤ 25 * 18279 := Int.mul_le_mul (by omega) hk.2 (by omega) (by omega)
    simp only [rankBelow, List.length_cons]
    omega
theorem impl_rankBelow_f : ∀ (l : List Int) (s : ByteArray) (d : Int), bs s = l → letters l = true → l.length ≤ 4 → 1 ≤ d → d + l.length ≤ 6 → impl_rankBelow.fL s d = some (rankBelow l d)
  | [], s, d, h, _, _, _, _ => by rw [impl_rankBelow.fL_eq, if_pos ((toList_nil s).2 h)]; rfl
  | b :: l, s, d, h, hl, hn, hd, hd2 => by
    simp only [List.length_cons] at hn hd2
    obtain ⟨hb, hl'⟩ := letters_cons hl
    have hs : s.size = l.length + 1 := by rw [← bs_length, h]; rfl
    have hnn : ¬ s.toList = [] := by rw [toList_nil, h]; simp
    have hdr : bs (s.extract 1 s.size) = l := by rw [bs_drop s 1 s.size (Nat.le_refl _), h]; rfl
    have hk := kfrom_range d
    have hr := rankBelow_range l (d + 1) hl'
    have m1 : 0 ≤ (b - 97) * kfrom d := Int.mul_nonneg (by omega) (by omega)
    have m2 : (b - 97) * kfrom d ≤ 25 * 18279 := Int.mul_le_mul (by omega) hk.2 (by omega) (by omega)
    rw [impl_rankBelow.fL_eq, if_neg hnn, if_pos (by omega), impl_keysFrom_f d hd (by omega), Option.bind_some, if_pos (by omega), w64 (n := d + 1) (by omega) (by omega),
      impl_rankBelow_f l _ (d + 1) hdr hl' (by omega) (by omega) (by omega), Option.bind_some, bt_bs, rd_zero h, Int.emod_eq_of_lt (a := b - 97) (by omega) (by omega),
      w64 (n := (b - 97) * kfrom d) (by omega) (by omega), w64 (n := 1 + (b - 97) * kfrom d) (by omega) (by omega), w64 (by omega) (by omega)]
    rfl
theorem impl_KeyRank_f (s : ByteArray) : impl_KeyRank.fL s = some (keyRank (bs s)) := by
  rw [impl_KeyRank.fL_eq, impl_KeyValid_f, Option.bind_some]
  unfold keyRank
  by_cases h : keyOk (bs s) = true
  · have hn := keyOk_len h
    have hr := rankBelow_range (bs s) 1 (keyOk_letters h)
    rw [if_pos h, if_pos h, impl_rankBelow_f _ s 1 rfl (keyOk_letters h) hn.2 (by omega) (by omega), Option.bind_some, w64 (by omega) (by omega)]
  · rw [if_neg h, if_neg h]

/-! #### alive -/
theorem laws_alive_f : laws_alive.fL = some true := by
  rw [laws_alive.fL_eq, impl_KeyRank_f, impl_KeyRank_f]
  rfl

end Go.Proofs.Ytcciackemicbbaa.Pure
