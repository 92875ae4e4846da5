/- Lemmas for FnExactFindOrder: what each function comes to. No condition. -/
import Derived.Test.YtcciackemicbbaaLFnExactFindOrder
namespace Go.Proofs.Ytcciackemicbbaa.Pure
open Go.RowKit Go.Proofs.Ytcciackemicbbaa.PFnExactFindOrder Go.Proofs.YtcciackemicbbaaW.PrintWords Go.Proofs.YtcciackemicbbaaW.PrintLast Go.Proofs.YtcciackemicbbaaW.PrintMore Go.Proofs.Ytcciackemicbbaa.Lim
set_option linter.unusedVariables false
set_option linter.unusedSimpArgs false

/-! #### basic -/
theorem w64 {n : Int} (h1 : -9223372036854775808 ≤ n) (h2 : n ≤ 9223372036854775807) : wrap64 n = n := by unfold wrap64; omega
theorem wf64 {n : Int} (h : (Lit.int .i64 n).wf = true) : -9223372036854775808 ≤ n ∧ n ≤ 9223372036854775807 := by
  simp only [Lit.wf, IntKind.min, IntKind.max, IntKind.signed, IntKind.bits, Bool.and_eq_true, decide_eq_true_eq, if_true] at h
  omega
theorem wf8 {n : Int} (h : (Lit.int .u8 n).wf = true) : 0 ≤ n ∧ n ≤ 255 := by
  simp only [Lit.wf, IntKind.min, IntKind.max, IntKind.signed, IntKind.bits, Bool.and_eq_true, decide_eq_true_eq] at h
  simp at h
  omega
theorem mn_eq (a b : Int) : mn a b = if a ≤ b then a else b := by unfold mn; split <;> split <;> omega
theorem mx_eq (a b : Int) : mx a b = if a ≤ b then b else a := by unfold mx; split <;> split <;> omega
theorem rd_drop {xs : List Int} {i : Int} {y : Int} {ys : List Int} (h0 : 0 ≤ i) (h : xs.drop i.toNat = y :: ys) : rd xs i = y ∧ i < xs.length ∧ xs.drop (i + 1).toNat = ys := by
  have h1 : i.toNat < xs.length := by
    by_cases e : i.toNat < xs.length
    · exact e
    · rw [List.drop_eq_nil_of_le (by omega)] at h; cases h
  rw [List.drop_eq_getElem_cons h1] at h
  injection h with ha hb
  refine ⟨?_, by omega, ?_⟩
  · unfold rd; rw [List.getD_eq_getElem?_getD, List.getElem?_eq_getElem h1]; exact ha
  · rw [show (i + 1).toNat = i.toNat + 1 by omega]; exact hb
theorem drop_nil {α : Type} {xs : List α} {i : Int} (h0 : 0 ≤ i) (hi : i ≤ xs.length) (h : xs.drop i.toNat = []) : i = xs.length := by
  have := congrArg List.length h
  simp at this
  omega
theorem rdOf_drop {α : Type} {d : α} {xs : List α} {i : Int} {y : α} {ys : List α} (h0 : 0 ≤ i) (h : xs.drop i.toNat = y :: ys) : rdOf d xs i = y ∧ i < xs.length ∧ xs.drop (i + 1).toNat = ys := by
  have h1 : i.toNat < xs.length := by
    by_cases e : i.toNat < xs.length
    · exact e
    · rw [List.drop_eq_nil_of_le (by omega)] at h; cases h
  rw [List.drop_eq_getElem_cons h1] at h
  injection h with ha hb
  refine ⟨?_, by omega, ?_⟩
  · unfold rdOf; rw [List.getD_eq_getElem?_getD, List.getElem?_eq_getElem h1]; exact ha
  · rw [show (i + 1).toNat = i.toNat + 1 by omega]; exact hb

/-! #### bytes -/
/-- A string's bytes as numbers. -/
def bs (s : ByteArray) : List Int := s.data.toList.map fun b => (b.toNat : Int)
theorem bs_length (s : ByteArray) : (bs s).length = s.size := by simp [bs]
theorem bt_bs (s : ByteArray) (i : Int) : bt s i = rd (bs s) i := by
  unfold bt rd bs
  rw [List.getD_eq_getElem?_getD, List.getElem?_map]
  by_cases h : i.toNat < s.size
  · rw [dif_pos h, List.getElem?_eq_getElem (by simpa using h)]; simp; rfl
  · rw [dif_neg h, List.getElem?_eq_none (by simpa using h)]; rfl
theorem bs_range (s : ByteArray) : ∀ b ∈ bs s, 0 ≤ b ∧ b ≤ 255 := by
  intro b hb
  simp only [bs, List.mem_map] at hb
  obtain ⟨c, _, rfl⟩ := hb
  have := c.toNat_lt
  omega
theorem bs_inj {s t : ByteArray} (h : bs s = bs t) : s = t := by
  have h1 : s.data.toList = t.data.toList := by
    refine List.map_inj_right (f := fun b : UInt8 => (b.toNat : Int)) ?_ |>.1 h
    intro x y hxy
    exact UInt8.toNat_inj.1 (by omega)
  cases s; cases t
  simp only [ByteArray.mk.injEq]
  exact Array.ext' h1
theorem toList_loop (s : ByteArray) (i : Nat) (r : List UInt8) : ByteArray.toList.loop s i r = r.reverse ++ s.data.toList.drop i := by
  unfold ByteArray.toList.loop
  split
  next h =>
    rw [toList_loop s (i + 1) (s.get! i :: r)]
    have h' : i < s.data.toList.length := by simpa using h
    rw [List.drop_eq_getElem_cons h']
    have : s.get! i = s.data.toList[i] := by
      show s.data[i]! = _
      rw [getElem!_pos s.data i (by simpa using h)]; simp
    rw [this]; simp
  next h =>
    rw [List.drop_eq_nil_of_le (by simpa using h)]; simp
  termination_by s.size - i
theorem toList_data (s : ByteArray) : s.toList = s.data.toList := by
  unfold ByteArray.toList; rw [toList_loop]; simp
theorem toList_nil (s : ByteArray) : s.toList = [] ↔ bs s = [] := by rw [toList_data]; simp [bs]
theorem bs_drop (s : ByteArray) (i j : Nat) (hj : s.size ≤ j) : bs (s.extract i j) = (bs s).drop i := by
  unfold bs
  rw [ByteArray.data_extract, ← List.map_drop]
  congr 1
  rw [Array.toList_extract]
  have : s.data.toList.length = s.size := by simp
  simp only [List.extract]
  rw [List.take_of_length_le (by rw [List.length_drop]; omega)]
theorem bs_take (s : ByteArray) (j : Nat) : bs (s.extract 0 j) = (bs s).take j := by
  unfold bs
  rw [ByteArray.data_extract, ← List.map_take]
  congr 1
  rw [Array.toList_extract]
  simp [List.extract]

/-! #### keys -/
def letters (l : List Int) : Bool := l.all fun b => decide (97 ≤ b ∧ b ≤ 122)
/-- KeyValid, over the bytes. -/
def keyOk (l : List Int) : Bool := decide (1 ≤ l.length ∧ l.length ≤ 4) && letters l
theorem rd_zero {l : List Int} {b : Int} {t : List Int} (h : l = b :: t) : rd l 0 = b := by subst h; rfl
theorem impl_lettersOnly_f : ∀ (l : List Int) (s : ByteArray), bs s = l → impl_lettersOnly.fL s = some (letters l)
  | [], s, h => by rw [impl_lettersOnly.fL_eq, if_pos ((toList_nil s).2 h)]; rfl
  | b :: l, s, h => by
    have hs : s.size = l.length + 1 := by rw [← bs_length, h]; rfl
    have hn : ¬ s.toList = [] := by rw [toList_nil, h]; simp
    have hd : bs (s.extract 1 s.size) = l := by rw [bs_drop s 1 s.size (Nat.le_refl _), h]; rfl
    rw [impl_lettersOnly.fL_eq, if_neg hn, if_pos (by omega), bt_bs, rd_zero h, if_pos (by omega : (1 : Int) ≤ (s.size : Int)), impl_lettersOnly_f l _ hd, Option.bind_some]
    unfold letters
    rw [List.all_cons]
    by_cases h1 : b ≥ 97
    · rw [if_pos h1]
      by_cases h2 : b ≤ 122
      · rw [if_pos h2, show decide (97 ≤ b ∧ b ≤ 122) = true from decide_eq_true ⟨h1, h2⟩]; rfl
      · rw [if_neg h2, show decide (97 ≤ b ∧ b ≤ 122) = false from decide_eq_false (by omega)]; rfl
    · rw [if_neg h1, show decide (97 ≤ b ∧ b ≤ 122) = false from decide_eq_false (by omega)]; rfl
theorem impl_KeyValid_f (s : ByteArray) : impl_KeyValid.fL s = some (keyOk (bs s)) := by
  rw [impl_KeyValid.fL_eq, impl_lettersOnly_f _ s rfl, Option.bind_some]
  unfold keyOk
  rw [bs_length]
  by_cases h1 : (s.size : Int) < 1
  · rw [if_pos h1, decide_eq_false (by omega)]; rfl
  · rw [if_neg h1]
    by_cases h2 : (s.size : Int) > 4
    · rw [if_pos h2, decide_eq_false (by omega)]; rfl
    · rw [if_neg h2, decide_eq_true (by omega)]; rfl
theorem keyOk_len {l : List Int} (h : keyOk l = true) : 1 ≤ l.length ∧ l.length ≤ 4 := by
  simp only [keyOk, Bool.and_eq_true, decide_eq_true_eq] at h; exact h.1
theorem keyOk_letters {l : List Int} (h : keyOk l = true) : letters l = true := by
  simp only [keyOk, Bool.and_eq_true, decide_eq_true_eq] at h; exact h.2
theorem letters_cons {b : Int} {l : List Int} (h : letters (b :: l) = true) : (97 ≤ b ∧ b ≤ 122) ∧ letters l = true := by
  simp only [letters, List.all_cons, Bool.and_eq_true, decide_eq_true_eq] at h
  exact ⟨h.1, by simp only [letters]; exact h.2⟩

/-! #### spec_l1In -/
theorem spec_l1In_f (a lo hi : Int) : spec_l1In.f a lo hi = some (decide (lo ≤ a ∧ a ≤ hi)) := by
  unfold spec_l1In.f
  by_cases h : a ≥ lo
  · rw [if_pos h]; congr 1; rw [decide_eq_decide]; omega
  · rw [if_neg h]; congr 1; rw [eq_comm, decide_eq_false_iff_not]; omega

/-! #### valueValid -/
theorem impl_valueValid_f (v : Int) : impl_valueValid.f v = some (decide (0 ≤ v ∧ v ≤ 999)) := by
  unfold impl_valueValid.f
  by_cases h : v ≥ 0
  · rw [if_pos h]; congr 1; rw [decide_eq_decide]; omega
  · rw [if_neg h]; congr 1; rw [eq_comm, decide_eq_false_iff_not]; omega

/-! #### cmdOk -/
/-- A command is valid. -/
def cmdOk (k : Int) (s : ByteArray) (v o : Int) : Bool :=
  decide (1 ≤ k ∧ k ≤ 5) && (keyOk (bs s) || (decide (k = 5) && decide (s.toList = []))) &&
    (if k = 2 then decide (0 ≤ v ∧ v ≤ 999) && decide (o = 0) else if k = 4 then decide (0 ≤ v ∧ v ≤ 999) && decide (-1 ≤ o ∧ o ≤ 999) else decide (v = 0) && decide (o = 0))
theorem beq_dec (a b : Int) : (a == b) = decide (a = b) := by
  rw [Bool.eq_iff_iff]; simp
theorem bne_dec (l : List UInt8) : (l != []) = !decide (l = []) := by cases l <;> simp

/-! #### CommandValid -/
theorem impl_CommandValid_f (k : Int) (s : ByteArray) (v o : Int) : impl_CommandValid.fL k s v o = some (cmdOk k s v o) := by
  have hj : impl_CommandValid.j1L false k s v o = some (if k = 2 then decide (0 ≤ v ∧ v ≤ 999) && decide (o = 0) else if k = 4 then decide (0 ≤ v ∧ v ≤ 999) && decide (-1 ≤ o ∧ o ≤ 999) else decide (v = 0) && decide (o = 0)) := by
    rw [impl_CommandValid.j1L_eq, if_neg (by simp), impl_valueValid_f, Option.bind_some, impl_valueValid_f, Option.bind_some]
    by_cases h2 : k = 2
    · rw [if_pos h2, if_pos h2]
      by_cases hv : 0 ≤ v ∧ v ≤ 999
      · rw [if_pos (by simpa using hv), decide_eq_true hv, beq_dec]; rfl
      · rw [if_neg (by simpa using hv), decide_eq_false hv]; rfl
    · rw [if_neg h2, if_neg h2]
      by_cases h4 : k = 4
      · rw [if_pos h4, if_pos h4, Option.bind_some]
        by_cases hv : 0 ≤ v ∧ v ≤ 999
        · rw [if_pos (by simpa using hv), decide_eq_true hv]
          by_cases ho : o = -1
          · rw [if_pos ho, decide_eq_true (by omega)]; rfl
          · rw [if_neg ho, Bool.true_and]; congr 1; rw [decide_eq_decide]; omega
        · rw [if_neg (by simpa using hv), decide_eq_false hv]; rfl
      · rw [if_neg h4, if_neg h4, beq_dec]
        by_cases hv : v = 0
        · rw [if_pos hv, decide_eq_true hv]; rfl
        · rw [if_neg hv, decide_eq_false hv]; rfl
  have ht : impl_CommandValid.j1L true k s v o = some false := by rw [impl_CommandValid.j1L_eq, if_pos rfl]
  rw [impl_CommandValid.fL_eq, impl_CommandValid.j0L_eq, impl_CommandValid.j0L_eq, impl_KeyValid_f, Option.bind_some, hj, ht, bne_dec]
  unfold cmdOk
  by_cases h1 : k < 1
  · rw [if_pos h1, if_pos rfl, decide_eq_false (p := 1 ≤ k ∧ k ≤ 5) (by omega)]; rfl
  · rw [if_neg h1]
    by_cases h5 : k > 5
    · rw [if_pos (by simpa using h5), decide_eq_false (p := 1 ≤ k ∧ k ≤ 5) (by omega)]; rfl
    · rw [if_neg (by simpa using h5), decide_eq_true (p := 1 ≤ k ∧ k ≤ 5) (by omega)]
      cases hk : keyOk (bs s) with
      | true => rw [if_pos rfl]; simp
      | false =>
        rw [if_neg (by simp)]
        by_cases h : k = 5
        · rw [if_pos h]
          by_cases hs : s.toList = []
          · rw [decide_eq_true hs, decide_eq_true h, Bool.not_true, hj]; simp
          · rw [decide_eq_false hs, Bool.not_false, ht]; simp
        · rw [if_neg h, decide_eq_false h]; simp

/-! #### timeValid -/
theorem impl_timeValid_f (t : Int) : impl_timeValid.f t = some (decide (0 ≤ t ∧ t ≤ 200)) := by
  unfold impl_timeValid.f
  by_cases h : t ≥ 0
  · rw [if_pos h]; congr 1; rw [decide_eq_decide]; omega
  · rw [if_neg h]; congr 1; rw [eq_comm, decide_eq_false_iff_not]; omega

/-! #### ResultValid -/
def resOk (x : S32) : Bool :=
  decide (1 ≤ x.f0 ∧ x.f0 ≤ 3) && decide (1 ≤ x.f1 ∧ x.f1 ≤ 999) && cmdOk x.f2.f0 x.f2.f1 x.f2.f2 x.f2.f3 && decide (¬ x.f2.f0 = 5) && decide (-4 ≤ x.f3 ∧ x.f3 ≤ 999) && decide (0 ≤ x.f5 ∧ x.f5 ≤ 200) && decide (0 ≤ x.f4 ∧ x.f4 ≤ x.f5)
theorem range_ge (a lo hi : Int) : (if a ≥ lo then some (decide (a ≤ hi)) else some false) = some (decide (lo ≤ a ∧ a ≤ hi)) := by
  by_cases h : a ≥ lo
  · rw [if_pos h]; congr 1; rw [decide_eq_decide]; omega
  · rw [if_neg h]; congr 1; rw [eq_comm, decide_eq_false_iff_not]; omega
theorem range_lt (a lo hi : Int) : (if a ≥ lo then some (decide (a < hi + 1)) else some false) = some (decide (lo ≤ a ∧ a ≤ hi)) := by
  by_cases h : a ≥ lo
  · rw [if_pos h]; congr 1; rw [decide_eq_decide]; omega
  · rw [if_neg h]; congr 1; rw [eq_comm, decide_eq_false_iff_not]; omega
theorem ite_and (a b : Bool) : (if a = true then some b else some false) = some (a && b) := by cases a <;> rfl
theorem impl_clientNumber_f (a : Int) : impl_clientNumber.f a = some (decide (1 ≤ a ∧ a ≤ 3)) := by unfold impl_clientNumber.f; exact range_lt a 1 3
theorem impl_seqValid_f (a : Int) : impl_seqValid.f a = some (decide (1 ≤ a ∧ a ≤ 999)) := by unfold impl_seqValid.f; exact range_ge a 1 999
theorem impl_replyValid_f (a : Int) : impl_replyValid.f a = some (decide (-4 ≤ a ∧ a ≤ 999)) := by unfold impl_replyValid.f; exact range_ge a (-4) 999
theorem bne5 (k : Int) : (k != 5) = decide (¬ k = 5) := by rw [Bool.eq_iff_iff]; simp
theorem impl_wishValid_f (k : Int) (s : ByteArray) (v o : Int) : impl_wishValid.fL k s v o = some (cmdOk k s v o && decide (¬ k = 5)) := by
  rw [impl_wishValid.fL_eq, impl_CommandValid_f, Option.bind_some, ite_and, bne5]
theorem impl_ResultValid_f (x : S32) : impl_ResultValid.fL x.f0 x.f1 x.f2.f0 x.f2.f1 x.f2.f2 x.f2.f3 x.f3 x.f4 x.f5 = some (resOk x) := by
  rw [impl_ResultValid.fL_eq, impl_clientNumber_f, impl_seqValid_f, impl_wishValid_f, impl_replyValid_f, impl_timeValid_f]
  simp only [Option.bind_some, range_ge, ite_and, resOk, Bool.and_assoc]

/-! #### resultsValid -/
theorem getD_res {α : Type} {xs : List α} {d : α} {i : Int} {y : α} {ys : List α} (h0 : 0 ≤ i) (h : xs.drop i.toNat = y :: ys) : xs.getD i.toNat d = y ∧ i < xs.length ∧ xs.drop (i + 1).toNat = ys := by
  have h1 : i.toNat < xs.length := by
    by_cases e : i.toNat < xs.length
    · exact e
    · rw [List.drop_eq_nil_of_le (by omega)] at h; cases h
  rw [List.drop_eq_getElem_cons h1] at h
  injection h with ha hb
  refine ⟨?_, by omega, ?_⟩
  · rw [List.getD_eq_getElem?_getD, List.getElem?_eq_getElem h1]; exact ha
  · rw [show (i + 1).toNat = i.toNat + 1 by omega]; exact hb
theorem impl_resultsValid_l0 (xs : List S32) (hx : xs.length ≤ 5) : ∀ (ys : List S32) (i : Int), 0 ≤ i → i ≤ xs.length → xs.drop i.toNat = ys → impl_resultsValid.l0L xs (xs.length : Int) i = some (ys.all resOk)
  | [], i, h0, h1, hd => by
    have := drop_nil h0 h1 hd
    rw [impl_resultsValid.l0L_eq, if_neg (by omega)]; rfl
  | y :: ys, i, h0, h1, hd => by
    obtain ⟨hr0, hl, hd'⟩ := getD_res (d := z32) h0 hd
    have hr : rd_T32 xs i = y := hr0
    rw [impl_resultsValid.l0L_eq, if_pos hl, if_pos h0, if_pos hl, hr, impl_ResultValid_f, Option.bind_some, w64 (by omega) (by omega), impl_resultsValid_l0 xs hx ys (i + 1) (by omega) (by omega) hd', List.all_cons]
    cases resOk y <;> rfl
theorem impl_resultsValid_f (xs : List S32) : impl_resultsValid.fL xs = some (decide (xs.length ≤ 5) && xs.all resOk) := by
  rw [impl_resultsValid.fL_eq]
  by_cases h : (xs.length : Int) > 5
  · rw [if_pos h, decide_eq_false (by omega)]; rfl
  · rw [if_neg h, decide_eq_true (by omega), impl_resultsValid_l0 xs (by omega) xs 0 (by omega) (by omega) (by simp)]; rfl

/-! #### spec_KeyValid -/
theorem spec_KeyValid_l0 (s : ByteArray) (hs : s.size ≤ 1000) : ∀ (ys : List Int) (i : Int), 0 ≤ i → i ≤ s.size → (bs s).drop i.toNat = ys → spec_KeyValid.l0L s i = some (letters ys)
  | [], i, h0, h1, hd => by
    have := drop_nil h0 (by rw [bs_length]; exact h1) hd
    rw [bs_length] at this
    rw [spec_KeyValid.l0L_eq, if_neg (by omega)]; rfl
  | y :: ys, i, h0, h1, hd => by
    obtain ⟨hr, hl, hd'⟩ := rd_drop h0 hd
    rw [bs_length] at hl
    rw [spec_KeyValid.l0L_eq, if_pos hl, if_pos h0, bt_bs, hr, w64 (by omega) (by omega)]
    unfold letters
    rw [List.all_cons]
    by_cases e1 : y < 97
    · rw [if_pos e1, decide_eq_false (by omega)]; rfl
    · rw [if_neg e1]
      by_cases e2 : y > 122
      · rw [if_pos e2, decide_eq_false (by omega)]; rfl
      · rw [if_neg e2, decide_eq_true (by omega), spec_KeyValid_l0 s hs ys (i + 1) (by omega) (by omega) hd']; rfl
theorem spec_KeyValid_f (s : ByteArray) : spec_KeyValid.fL s = some (keyOk (bs s)) := by
  rw [spec_KeyValid.fL_eq, spec_l1In_f, Option.bind_some]
  unfold keyOk
  rw [bs_length]
  by_cases h : 1 ≤ (s.size : Int) ∧ (s.size : Int) ≤ 4
  · rw [if_pos (by simpa using h), decide_eq_true (by omega), spec_KeyValid_l0 s (by omega) (bs s) 0 (by omega) (by omega) (by simp)]; rfl
  · rw [if_neg (by simpa using h), decide_eq_false (by omega)]; rfl

/-! #### spec_CommandValid -/
theorem spec_CommandValid_f (k : Int) (s : ByteArray) (v o : Int) : spec_CommandValid.fL k s v o = some (cmdOk k s v o) := by
  have hz : spec_CommandValid.j1L k true k s v o = some (decide (v = 0) && decide (o = 0)) := by
    rw [spec_CommandValid.j1L_eq, if_pos rfl, beq_dec]
    by_cases hv : v = 0
    · rw [if_pos hv, decide_eq_true hv]; rfl
    · rw [if_neg hv, decide_eq_false hv]; rfl
  have hn : spec_CommandValid.j1L k false k s v o = some (if k = 2 then decide (0 ≤ v ∧ v ≤ 999) && decide (o = 0) else if k = 4 then decide (0 ≤ v ∧ v ≤ 999) && decide (-1 ≤ o ∧ o ≤ 999) else false) := by
    rw [spec_CommandValid.j1L_eq, if_neg (by simp), spec_l1In_f, Option.bind_some, spec_l1In_f, Option.bind_some]
    by_cases h2 : k = 2
    · rw [if_pos h2, if_pos h2, beq_dec]
      by_cases hv : 0 ≤ v ∧ v ≤ 999
      · rw [if_pos (by simpa using hv), decide_eq_true hv]; rfl
      · rw [if_neg (by simpa using hv), decide_eq_false hv]; rfl
    · rw [if_neg h2, if_neg h2]
      by_cases h4 : k = 4
      · rw [if_pos h4, if_pos h4, Option.bind_some]
        by_cases hv : 0 ≤ v ∧ v ≤ 999
        · rw [if_pos (by simpa using hv), decide_eq_true hv]; rfl
        · rw [if_neg (by simpa using hv), decide_eq_false hv]; rfl
      · rw [if_neg h4, if_neg h4]
  have hj : spec_CommandValid.j0L false k s v o = some (decide (1 ≤ k ∧ k ≤ 5) && (if k = 2 then decide (0 ≤ v ∧ v ≤ 999) && decide (o = 0) else if k = 4 then decide (0 ≤ v ∧ v ≤ 999) && decide (-1 ≤ o ∧ o ≤ 999) else decide (v = 0) && decide (o = 0))) := by
    rw [spec_CommandValid.j0L_eq, if_neg (by simp), beq_dec, beq_dec, beq_dec]
    by_cases h1 : k = 1
    · rw [if_pos h1, decide_eq_true h1, hz, decide_eq_true (p := 1 ≤ k ∧ k ≤ 5) (by omega), if_neg (by omega), if_neg (by omega)]; rfl
    · rw [if_neg h1]
      by_cases h3 : k = 3
      · rw [if_pos h3, decide_eq_true h3, hz, decide_eq_true (p := 1 ≤ k ∧ k ≤ 5) (by omega), if_neg (by omega), if_neg (by omega)]; rfl
      · rw [if_neg h3]
        by_cases h5 : k = 5
        · rw [decide_eq_true h5, hz, decide_eq_true (p := 1 ≤ k ∧ k ≤ 5) (by omega), if_neg (by omega), if_neg (by omega)]; rfl
        · rw [decide_eq_false h5, hn]
          by_cases h2 : k = 2
          · rw [decide_eq_true (p := 1 ≤ k ∧ k ≤ 5) (by omega), if_pos h2, if_pos h2]; rfl
          · by_cases h4 : k = 4
            · rw [decide_eq_true (p := 1 ≤ k ∧ k ≤ 5) (by omega), if_neg h2, if_neg h2, if_pos h4, if_pos h4]; rfl
            · rw [decide_eq_false (p := 1 ≤ k ∧ k ≤ 5) (by omega), if_neg h2, if_neg h4]; rfl
  have ht : spec_CommandValid.j0L true k s v o = some false := by rw [spec_CommandValid.j0L_eq, if_pos rfl]
  rw [spec_CommandValid.fL_eq, spec_KeyValid_f, Option.bind_some, hj, ht, bne_dec]
  unfold cmdOk
  cases hk : keyOk (bs s) with
  | true => rw [if_pos rfl]; simp
  | false =>
    rw [if_neg (by simp)]
    by_cases h : k = 5
    · rw [if_pos h]
      by_cases hs : s.toList = []
      · rw [decide_eq_true hs, decide_eq_true h, Bool.not_true, hj]; simp
      · rw [decide_eq_false hs, Bool.not_false, ht]; simp
    · rw [if_neg h, decide_eq_false h]; simp

/-! #### spec_ResultValid -/
theorem spec_l25Wish_f (k : Int) (s : ByteArray) (v o : Int) : spec_l25Wish.fL k s v o = some (cmdOk k s v o && decide (¬ k = 5)) := by
  rw [spec_l25Wish.fL_eq, spec_CommandValid_f, Option.bind_some, ite_and, bne5]
theorem spec_ResultValid_f (x : S32) : spec_ResultValid.fL x.f0 x.f1 x.f2.f0 x.f2.f1 x.f2.f2 x.f2.f3 x.f3 x.f4 x.f5 = some (resOk x) := by
  rw [spec_ResultValid.fL_eq, spec_l1In_f, spec_l1In_f, spec_l25Wish_f, spec_l1In_f, spec_l1In_f, spec_l1In_f]
  simp only [Option.bind_some, ite_and, resOk, Bool.and_assoc]

/-! #### index_int -/
/-- Where v is first, from an index on; -1 if nowhere. -/
def idx (v : Int) : List Int → Int → Int
  | [], _ => -1
  | y :: ys, i => if v = y then i else idx v ys (i + 1)
theorem slices_Index_l0 (xs : List Int) (v : Int) (hx : xs.length ≤ 1000000000000000) : ∀ (ys : List Int) (i : Int), 0 ≤ i → i ≤ xs.length → xs.drop i.toNat = ys → slices_Index_int_int.l0L xs v (xs.length : Int) i = some (idx v ys i)
  | [], i, h0, h1, hd => by
    have := drop_nil h0 h1 hd
    rw [slices_Index_int_int.l0L_eq, if_neg (by omega)]; rfl
  | y :: ys, i, h0, h1, hd => by
    obtain ⟨hr, hl, hd'⟩ := rd_drop h0 hd
    rw [slices_Index_int_int.l0L_eq, if_pos hl, if_pos h0, if_pos hl, hr, w64 (by omega) (by omega)]
    simp only [idx]
    by_cases e : v = y
    · rw [if_pos e, if_pos e]
    · rw [if_neg e, if_neg e]; exact slices_Index_l0 xs v hx ys (i + 1) (by omega) (by omega) hd'
theorem slices_Index_f (xs : List Int) (v : Int) (hx : xs.length ≤ 1000000000000000) : slices_Index_int_int.fL xs v = some (idx v xs 0) := by
  rw [slices_Index_int_int.fL_eq]; exact slices_Index_l0 xs v hx xs 0 (by omega) (by omega) (by simp)
theorem idx_ge (v : Int) : ∀ (ys : List Int) (i : Int), 0 ≤ i → (idx v ys i ≥ 0 ↔ v ∈ ys)
  | [], i, _ => by simp [idx]
  | y :: ys, i, h => by
    have ih := idx_ge v ys (i + 1) (by omega)
    simp only [idx, List.mem_cons]
    by_cases e : v = y
    · rw [if_pos e]; simp [e, h]
    · rw [if_neg e, ih]; simp [e]
theorem slices_Contains_f (xs : List Int) (v : Int) (hx : xs.length ≤ 1000000000000000) : slices_Contains_int_int.fL xs v = some (decide (v ∈ xs)) := by
  rw [slices_Contains_int_int.fL_eq, slices_Index_f xs v hx, Option.bind_some]
  congr 1
  rw [decide_eq_decide]
  exact idx_ge v xs 0 (by omega)

/-! #### OrderValid -/
/-- The rest of an order is right, behind what was before. -/
def okFrom (many : Int) : List Int → List Int → Bool
  | _, [] => true
  | pre, y :: ys => decide (0 ≤ y ∧ y < many) && !decide (y ∈ pre) && okFrom many (pre ++ [y]) ys
def orderOk (many : Int) (l : List Int) : Bool := decide (l.length ≤ 5 ∧ (l.length : Int) = many) && okFrom many [] l
theorem take_snoc_drop {α : Type} {xs : List α} {i : Nat} {y : α} {ys : List α} (h : xs.drop i = y :: ys) : xs.take (i + 1) = xs.take i ++ [y] := by
  have h1 : i < xs.length := by
    by_cases e : i < xs.length
    · exact e
    · rw [List.drop_eq_nil_of_le (by omega)] at h; cases h
  rw [List.drop_eq_getElem_cons h1] at h
  injection h with ha hb
  rw [List.take_succ_eq_append_getElem h1, ha]
theorem impl_OrderValid_l0 (many : Int) (xs : List Int) (hx : xs.length ≤ 5) : ∀ (ys : List Int) (i : Int), 0 ≤ i → i ≤ xs.length → xs.drop i.toNat = ys → impl_OrderValid.l0L many xs xs (xs.length : Int) i = some (okFrom many (xs.take i.toNat) ys)
  | [], i, h0, h1, hd => by
    have := drop_nil h0 h1 hd
    rw [impl_OrderValid.l0L_eq, if_neg (by omega)]; rfl
  | y :: ys, i, h0, h1, hd => by
    obtain ⟨hr, hl, hd'⟩ := rd_drop h0 hd
    have ht := take_snoc_drop hd
    have hle : i ≤ (xs.length : Int) := h1
    rw [impl_OrderValid.l0L_eq, if_pos hl, if_pos h0, if_pos hl, hr, if_pos hle, slices_Contains_f _ _ (by rw [List.length_take]; omega), Option.bind_some, w64 (by omega) (by omega)]
    simp only [okFrom]
    by_cases e1 : y < 0
    · rw [if_pos e1, decide_eq_false (p := 0 ≤ y ∧ y < many) (by omega)]; rfl
    · rw [if_neg e1]
      by_cases e2 : y ≥ many
      · rw [if_pos e2, decide_eq_false (p := 0 ≤ y ∧ y < many) (by omega)]; rfl
      · rw [if_neg e2, decide_eq_true (p := 0 ≤ y ∧ y < many) (by omega)]
        by_cases e3 : y ∈ xs.take i.toNat
        · rw [decide_eq_true e3, if_pos rfl]; rfl
        · rw [decide_eq_false e3, if_neg (by simp), impl_OrderValid_l0 many xs hx ys (i + 1) (by omega) (by omega) hd', show (i + 1).toNat = i.toNat + 1 by omega, ht]; rfl
theorem impl_OrderValid_f (many : Int) (xs : List Int) : impl_OrderValid.fL many xs = some (orderOk many xs) := by
  rw [impl_OrderValid.fL_eq, impl_OrderValid.j0L_eq, impl_OrderValid.j0L_eq]
  unfold orderOk
  by_cases h1 : (xs.length : Int) > 5
  · rw [if_pos h1, if_pos rfl, decide_eq_false (by omega)]; rfl
  · rw [if_neg h1]
    by_cases h2 : (xs.length : Int) = many
    · rw [if_neg (by simpa using h2), decide_eq_true (by omega), impl_OrderValid_l0 many xs (by omega) xs 0 (by omega) (by omega) (by simp)]; rfl
    · rw [if_pos (by simpa using h2), decide_eq_false (by omega)]; rfl
theorem spec_OrderValid_l1 (many : Int) (xs : List Int) (hx : xs.length ≤ 5) (k y : Int) (h0 : 0 ≤ k) (hk : k < xs.length) (hy : rd xs k = y) : ∀ (zs : List Int) (j : Int), 0 ≤ j → j ≤ k → (xs.take k.toNat).drop j.toNat = zs → spec_OrderValid.l1L many xs k j = if y ∈ zs then some false else spec_OrderValid.l0L many xs (k + 1)
  | [], j, h1, h2, hd => by
    have hl : (xs.take k.toNat).length = k.toNat := by rw [List.length_take]; omega
    have := drop_nil h1 (by omega) hd
    rw [spec_OrderValid.l1L_eq, if_neg (by omega), w64 (by omega) (by omega), if_neg (by simp)]
  | z :: zs, j, h1, h2, hd => by
    have hl : (xs.take k.toNat).length = k.toNat := by rw [List.length_take]; omega
    obtain ⟨hr, hlt, hd'⟩ := rd_drop h1 hd
    have hr' : rd xs j = z := by
      rw [← hr]; unfold rd
      rw [List.getD_eq_getElem?_getD, List.getD_eq_getElem?_getD, List.getElem?_take, if_pos (by omega)]
    rw [spec_OrderValid.l1L_eq, if_pos (by omega), if_pos h1, if_pos (by omega), if_pos h0, if_pos hk, hr', hy, w64 (by omega) (by omega)]
    by_cases e : z = y
    · rw [if_pos e, if_pos (by simp [e])]
    · rw [if_neg e, spec_OrderValid_l1 many xs hx k y h0 hk hy zs (j + 1) (by omega) (by omega) hd']
      have e' : ¬ y = z := fun h => e h.symm
      simp [e']
theorem spec_OrderValid_l0 (many : Int) (hm : many ≤ 5) (hm0 : 0 ≤ many) (xs : List Int) (hx : xs.length ≤ 5) : ∀ (ys : List Int) (i : Int), 0 ≤ i → i ≤ xs.length → xs.drop i.toNat = ys → spec_OrderValid.l0L many xs i = some (okFrom many (xs.take i.toNat) ys)
  | [], i, h0, h1, hd => by
    have := drop_nil h0 h1 hd
    rw [spec_OrderValid.l0L_eq, if_neg (by omega)]; rfl
  | y :: ys, i, h0, h1, hd => by
    obtain ⟨hr, hl, hd'⟩ := rd_drop h0 hd
    have ht := take_snoc_drop hd
    rw [spec_OrderValid.l0L_eq, if_pos hl, if_pos h0, hr, spec_l1In_f, Option.bind_some, w64 (by omega) (by omega)]
    simp only [okFrom]
    by_cases e1 : 0 ≤ y ∧ y < many
    · rw [if_pos (by simp; omega), decide_eq_true e1, spec_OrderValid_l1 many xs hx i y h0 hl hr (xs.take i.toNat) 0 (by omega) h0 (by simp), spec_OrderValid_l0 many hm hm0 xs hx ys (i + 1) (by omega) (by omega) hd', show (i + 1).toNat = i.toNat + 1 by omega, ht]
      by_cases e3 : y ∈ xs.take i.toNat
      · rw [decide_eq_true e3, if_pos e3]; rfl
      · rw [decide_eq_false e3, if_neg e3]; rfl
    · rw [if_neg (by simp; omega), decide_eq_false e1]; rfl
theorem spec_OrderValid_f (many : Int) (xs : List Int) : spec_OrderValid.fL many xs = some (orderOk many xs) := by
  rw [spec_OrderValid.fL_eq, spec_OrderValid.j0L_eq, spec_OrderValid.j0L_eq]
  unfold orderOk
  by_cases h1 : many > 5
  · rw [if_pos h1, if_pos rfl, decide_eq_false (by omega)]; rfl
  · rw [if_neg h1]
    by_cases h2 : (xs.length : Int) = many
    · rw [if_neg (by simpa using h2), decide_eq_true (by omega), spec_OrderValid_l0 many (by omega) (by omega) xs (by omega) xs 0 (by omega) (by omega) (by simp)]; rfl
    · rw [if_pos (by simpa using h2), decide_eq_false (by omega)]; rfl
theorem okFrom_iff (many : Int) : ∀ (ys pre : List Int), okFrom many pre ys = true ↔ (∀ y ∈ ys, 0 ≤ y ∧ y < many) ∧ ys.Nodup ∧ ∀ y ∈ ys, y ∉ pre
  | [], pre => by simp [okFrom]
  | y :: ys, pre => by
    simp only [okFrom, Bool.and_eq_true, decide_eq_true_eq, Bool.not_eq_true', decide_eq_false_iff_not, okFrom_iff many ys, List.mem_cons, List.nodup_cons, List.mem_append, List.not_mem_nil, or_false]
    constructor
    · rintro ⟨⟨h1, h2⟩, h3, h4, h5⟩
      refine ⟨?_, ⟨?_, h4⟩, ?_⟩
      · rintro z (rfl | hz)
        · exact h1
        · exact h3 z hz
      · exact fun hm => (h5 y hm) (.inr rfl)
      · rintro z (rfl | hz)
        · exact h2
        · exact fun hp => h5 z hz (.inl hp)
    · rintro ⟨h1, ⟨h2, h3⟩, h4⟩
      refine ⟨⟨h1 y (.inl rfl), h4 y (.inl rfl)⟩, fun z hz => h1 z (.inr hz), h3, ?_⟩
      rintro z hz (hp | rfl)
      · exact h4 z (.inr hz) hp
      · exact h2 hz
theorem orderOk_iff (many : Int) (l : List Int) : orderOk many l = true ↔ l.length ≤ 5 ∧ (l.length : Int) = many ∧ (∀ y ∈ l, 0 ≤ y ∧ y < many) ∧ l.Nodup := by
  unfold orderOk
  rw [Bool.and_eq_true, decide_eq_true_eq, okFrom_iff]
  simp [and_assoc]

/-! #### orderAll -/
theorem nodup_len : ∀ (m : Nat) (l : List Int), l.Nodup → (∀ x ∈ l, 0 ≤ x ∧ x < m) → l.length ≤ m
  | 0, l, _, h => by
    cases l with
    | nil => simp
    | cons x l => have := h x List.mem_cons_self; omega
  | m + 1, l, hn, h => by
    have h1 := nodup_len m (l.erase (m : Int)) (hn.erase _) (fun x hx => by
      have := (List.Nodup.mem_erase_iff hn).1 hx
      have := h x this.2
      omega)
    rw [List.length_erase] at h1
    split at h1 <;> omega
theorem order_all {n : Nat} {o : List Int} (h : orderOk n o = true) (i : Int) (h0 : 0 ≤ i) (h1 : i < n) : i ∈ o := by
  obtain ⟨_, hl, hr, hn⟩ := (orderOk_iff _ _).1 h
  by_cases e : i ∈ o
  · exact e
  · have := nodup_len n (i :: o) (List.nodup_cons.2 ⟨e, hn⟩) (fun x hx => by
      rcases List.mem_cons.1 hx with rfl | hx
      · exact ⟨h0, h1⟩
      · exact hr x hx)
    simp at this
    omega
theorem all_over {xs : List S32} {o : List Int} (h : orderOk xs.length o = true) : (o.all fun i => resOk (rd_T32 xs i)) = xs.all resOk := by
  rw [Bool.eq_iff_iff, List.all_eq_true, List.all_eq_true]
  have hr := ((orderOk_iff _ _).1 h).2.2.1
  constructor
  · intro ha x hx
    obtain ⟨i, hi, rfl⟩ := List.getElem_of_mem hx
    have := ha i (order_all h i (by omega) (by omega))
    unfold rd_T32 at this
    rw [List.getD_eq_getElem?_getD, Int.toNat_natCast, List.getElem?_eq_getElem hi] at this
    exact this
  · intro ha i hi
    have := hr i hi
    refine ha _ ?_
    unfold rd_T32
    rw [List.getD_eq_getElem?_getD, List.getElem?_eq_getElem (show i.toNat < xs.length by omega)]
    exact List.getElem_mem _

/-! #### RealTime -/
/-- No later result returned before this one was called. -/
def before (xs : List S32) (c : Int) (zs : List Int) : Bool := zs.all fun m => !decide ((rd_T32 xs m).f5 < c)
def rtI (xs : List S32) : List Int → Bool
  | [] => true
  | y :: ys => before xs (rd_T32 xs y).f4 ys && rtI xs ys
def rtS (xs : List S32) : List Int → Bool
  | [] => true
  | y :: ys => resOk (rd_T32 xs y) && before xs (rd_T32 xs y).f4 ys && rtS xs ys
def realTime (xs : List S32) (o : List Int) : Bool := decide (xs.length ≤ 5) && xs.all resOk && orderOk xs.length o && rtI xs o
theorem impl_RealTime_l1 (xs : List S32) (o : List Int) (n i : Int) (hn : 0 ≤ n) (hn2 : n < xs.length) (w : List Int) (hw : w.length ≤ 5) (hr : ∀ m ∈ w, 0 ≤ m ∧ m < xs.length) (hi : 0 ≤ i) (hi2 : i ≤ 100) :
    ∀ (zs : List Int) (j : Int), 0 ≤ j → j ≤ w.length → w.drop j.toNat = zs → impl_RealTime.l1L xs o n o (o.length : Int) i w (w.length : Int) j = if before xs (rd_T32 xs n).f4 zs = true then impl_RealTime.l0L xs o o (o.length : Int) (i + 1) else some false
  | [], j, h0, h1, hd => by
    have := drop_nil h0 h1 hd
    rw [impl_RealTime.l1L_eq, if_neg (by omega), w64 (by omega) (by omega), if_pos (by simp [before])]
  | z :: zs, j, h0, h1, hd => by
    obtain ⟨hz, hl, hd'⟩ := rd_drop h0 hd
    have hm : z ∈ w := by
      have : z ∈ w.drop j.toNat := by rw [hd]; exact List.mem_cons_self
      exact List.mem_of_mem_drop this
    have hzr := hr z hm
    rw [impl_RealTime.l1L_eq, if_pos hl, if_pos h0, if_pos hl, hz, if_pos hzr.1, if_pos hzr.2, if_pos hn, if_pos hn2, w64 (by omega) (by omega),
      impl_RealTime_l1 xs o n i hn hn2 w hw hr hi hi2 zs (j + 1) (by omega) (by omega) hd']
    unfold before
    rw [List.all_cons]
    by_cases e : (rd_T32 xs z).f5 < (rd_T32 xs n).f4
    · rw [if_pos e, decide_eq_true e]; simp
    · rw [if_neg e, decide_eq_false e]; simp
theorem impl_RealTime_l0 (xs : List S32) (o : List Int) (ho : o.length ≤ 5) (hr : ∀ m ∈ o, 0 ≤ m ∧ m < xs.length) : ∀ (ys : List Int) (i : Int), 0 ≤ i → i ≤ o.length → o.drop i.toNat = ys → impl_RealTime.l0L xs o o (o.length : Int) i = some (rtI xs ys)
  | [], i, h0, h1, hd => by
    have := drop_nil h0 h1 hd
    rw [impl_RealTime.l0L_eq, if_neg (by omega)]; rfl
  | y :: ys, i, h0, h1, hd => by
    obtain ⟨hz, hl, hd'⟩ := rd_drop h0 hd
    have hm : y ∈ o := by
      have : y ∈ o.drop i.toNat := by rw [hd]; exact List.mem_cons_self
      exact List.mem_of_mem_drop this
    have hy := hr y hm
    rw [impl_RealTime.l0L_eq, if_pos hl, if_pos h0, if_pos hl, hz, w64 (by omega) (by omega), if_pos (by omega), if_pos (by omega), Option.bind_some, hd',
      impl_RealTime_l1 xs o y i hy.1 hy.2 ys (by rw [← hd', List.length_drop]; omega) (fun m h => hr m (List.mem_of_mem_drop (by rw [hd']; exact h))) h0 (by omega) ys 0 (by omega) (by omega) (by simp),
      impl_RealTime_l0 xs o ho hr ys (i + 1) (by omega) (by omega) hd']
    simp only [rtI]
    cases before xs (rd_T32 xs y).f4 ys <;> rfl
theorem impl_RealTime_f (xs : List S32) (o : List Int) : impl_RealTime.fL xs o = some (realTime xs o) := by
  rw [impl_RealTime.fL_eq, impl_resultsValid_f, Option.bind_some, impl_OrderValid_f, Option.bind_some, impl_RealTime.j0L_eq, impl_RealTime.j0L_eq]
  unfold realTime
  by_cases h : (decide (xs.length ≤ 5) && xs.all resOk) = true
  · rw [if_pos h, h]
    by_cases h2 : orderOk xs.length o = true
    · have hi := (orderOk_iff _ _).1 h2
      rw [h2, if_neg (by simp), impl_RealTime_l0 xs o hi.1 hi.2.2.1 o 0 (by omega) (by omega) (by simp)]; rfl
    · have h2 : orderOk xs.length o = false := by simpa using h2
      rw [h2, if_pos (by simp)]; rfl
  · rw [if_neg h, if_pos rfl]
    have h : (decide (xs.length ≤ 5) && xs.all resOk) = false := by simpa using h
    rw [h]; rfl
theorem spec_RealTime_l1 (xs : List S32) (o : List Int) (ho : o.length ≤ 5) (hr : ∀ m ∈ o, 0 ≤ m ∧ m < xs.length) (x : S32) (i : Int) (hi : 0 ≤ i) (hi2 : i ≤ 100) :
    ∀ (zs : List Int) (j : Int), 0 ≤ j → j ≤ o.length → o.drop j.toNat = zs → spec_RealTime.l1L xs o i j x.f0 x.f1 x.f2.f0 x.f2.f1 x.f2.f2 x.f2.f3 x.f3 x.f4 x.f5 = if before xs x.f4 zs = true then spec_RealTime.l0L xs o (i + 1) else some false
  | [], j, h0, h1, hd => by
    have := drop_nil h0 h1 hd
    rw [spec_RealTime.l1L_eq, if_neg (by omega), w64 (by omega) (by omega), if_pos (by simp [before])]
  | z :: zs, j, h0, h1, hd => by
    obtain ⟨hz, hl, hd'⟩ := rd_drop h0 hd
    have hm : z ∈ o := by
      have : z ∈ o.drop j.toNat := by rw [hd]; exact List.mem_cons_self
      exact List.mem_of_mem_drop this
    have hzr := hr z hm
    rw [spec_RealTime.l1L_eq, if_pos hl, if_pos h0, hz, if_pos hzr.1, if_pos hzr.2, w64 (by omega) (by omega),
      spec_RealTime_l1 xs o ho hr x i hi hi2 zs (j + 1) (by omega) (by omega) hd']
    unfold before
    rw [List.all_cons]
    by_cases e : (rd_T32 xs z).f5 < x.f4
    · rw [if_pos e, decide_eq_true e]; simp
    · rw [if_neg e, decide_eq_false e]; simp
theorem spec_RealTime_l0 (xs : List S32) (o : List Int) (ho : o.length ≤ 5) (hr : ∀ m ∈ o, 0 ≤ m ∧ m < xs.length) : ∀ (ys : List Int) (i : Int), 0 ≤ i → i ≤ o.length → o.drop i.toNat = ys → spec_RealTime.l0L xs o i = some (rtS xs ys)
  | [], i, h0, h1, hd => by
    have := drop_nil h0 h1 hd
    rw [spec_RealTime.l0L_eq, if_neg (by omega)]; rfl
  | y :: ys, i, h0, h1, hd => by
    obtain ⟨hz, hl, hd'⟩ := rd_drop h0 hd
    have hm : y ∈ o := by
      have : y ∈ o.drop i.toNat := by rw [hd]; exact List.mem_cons_self
      exact List.mem_of_mem_drop this
    have hy := hr y hm
    rw [spec_RealTime.l0L_eq, if_pos hl, if_pos h0, hz, if_pos hy.1, if_pos hy.2, spec_ResultValid_f, Option.bind_some, w64 (by omega) (by omega),
      spec_RealTime_l1 xs o ho hr (rd_T32 xs y) i h0 (by omega) ys (i + 1) (by omega) (by omega) hd', spec_RealTime_l0 xs o ho hr ys (i + 1) (by omega) (by omega) hd']
    simp only [rtS]
    cases resOk (rd_T32 xs y) <;> cases before xs (rd_T32 xs y).f4 ys <;> rfl
theorem rtS_iff (xs : List S32) : ∀ o : List Int, rtS xs o = ((o.all fun i => resOk (rd_T32 xs i)) && rtI xs o)
  | [] => rfl
  | y :: ys => by
    simp only [rtS, rtI, List.all_cons, rtS_iff xs ys]
    cases resOk (rd_T32 xs y) <;> cases before xs (rd_T32 xs y).f4 ys <;> simp
theorem spec_RealTime_f (xs : List S32) (o : List Int) : spec_RealTime.fL xs o = some (realTime xs o) := by
  rw [spec_RealTime.fL_eq, spec_OrderValid_f, Option.bind_some]
  unfold realTime
  by_cases h2 : orderOk xs.length o = true
  · have hi := (orderOk_iff _ _).1 h2
    rw [if_pos h2, spec_RealTime_l0 xs o hi.1 hi.2.2.1 o 0 (by omega) (by omega) (by simp), rtS_iff, all_over h2, h2, decide_eq_true (p := xs.length ≤ 5) (by omega)]
    simp
  · have h2' : orderOk xs.length o = false := by simpa using h2
    rw [if_neg h2, h2']; simp

/-! #### pairs -/
def klt (a b : ByteArray) : Bool := Op.bytesLess a.toList b.toList
/-- A pair alone is valid. -/
def pairItem (y : S181) : Bool := keyOk (bs y.f0) && decide (0 ≤ y.f1 ∧ y.f1 ≤ 999)
/-- The key is greater than the one before, if there is one. -/
def above : Option ByteArray → ByteArray → Bool
  | none, _ => true
  | some q, k => klt q k
def pairsFrom : Option ByteArray → List S181 → Bool
  | _, [] => true
  | p, y :: ys => pairItem y && above p y.f0 && pairsFrom (some y.f0) ys
def pairsOk (l : List S181) : Bool := decide (l.length ≤ 48) && pairsFrom none l
theorem getD_cons {α : Type} {xs : List α} {d : α} {i : Int} {y : α} {ys : List α} (h0 : 0 ≤ i) (h : xs.drop i.toNat = y :: ys) : xs.getD i.toNat d = y ∧ i < xs.length ∧ xs.drop (i + 1).toNat = ys := by
  have h1 : i.toNat < xs.length := by
    by_cases e : i.toNat < xs.length
    · exact e
    · rw [List.drop_eq_nil_of_le (by omega)] at h; cases h
  rw [List.drop_eq_getElem_cons h1] at h
  injection h with ha hb
  refine ⟨?_, by omega, ?_⟩
  · rw [List.getD_eq_getElem?_getD, List.getElem?_eq_getElem h1]; exact ha
  · rw [show (i + 1).toNat = i.toNat + 1 by omega]; exact hb

/-! #### pairmap -/
theorem toList_eq {a b : ByteArray} : a.toList = b.toList ↔ a = b := by
  rw [toList_data, toList_data]
  exact ⟨fun h => ByteArray.ext (Array.toList_inj.mp h), fun h => by rw [h]⟩
/-- Where a key is or belongs: how many pairs stand before it. -/
def place (k : ByteArray) : List S181 → Nat
  | [] => 0
  | y :: ys => if klt y.f0 k = true then place k ys + 1 else 0
theorem place_le (k : ByteArray) : ∀ l, place k l ≤ l.length
  | [] => Nat.le_refl _
  | y :: ys => by
    have := place_le k ys
    simp only [place, List.length_cons]
    split <;> omega
/-- Is the key there? -/
def hit (k : ByteArray) (l : List S181) : Bool := decide (place k l < l.length ∧ (rd_T181 l (place k l : Int)).f0 = k)
theorem hit_lt {k : ByteArray} {l : List S181} (h : hit k l = true) : place k l < l.length := (of_decide_eq_true h).1
theorem hit_key {k : ByteArray} {l : List S181} (h : hit k l = true) : (rd_T181 l (place k l : Int)).f0 = k := (of_decide_eq_true h).2
def pairGet (l : List S181) (k : ByteArray) : Int := if pairsOk l = true then (if hit k l = true then (rd_T181 l (place k l : Int)).f1 else -1) else -1
def pairDrop (l : List S181) (k : ByteArray) : List S181 × Bool := if pairsOk l = true then (if hit k l = true then (l.take (place k l) ++ l.drop (place k l + 1), true) else (l, false)) else ([], false)
def pairPut (l : List S181) (k : ByteArray) (v : Int) : List S181 × Bool :=
  if pairsOk l = true ∧ keyOk (bs k) = true ∧ 0 ≤ v ∧ v ≤ 999 then
    (if hit k l = true then (l.take (place k l) ++ ⟨k, v⟩ :: l.drop (place k l + 1), true) else if 48 ≤ l.length then (l, false) else (l.take (place k l) ++ ⟨k, v⟩ :: l.drop (place k l), true))
  else ([], false)
theorem pairsOk_le {l : List S181} (h : pairsOk l = true) : l.length ≤ 48 := by
  simp only [pairsOk, Bool.and_eq_true, decide_eq_true_eq] at h; exact h.1
theorem pairPut_length (l : List S181) (k : ByteArray) (v : Int) : (pairPut l k v).1.length ≤ 48 := by
  unfold pairPut
  split
  · rename_i h
    have h1 := pairsOk_le h.1
    have h2 := place_le k l
    split
    · rename_i h3
      have := hit_lt h3
      simp; omega
    · split
      · exact h1
      · simp; omega
  · simp
theorem pairDrop_length (l : List S181) (k : ByteArray) : (pairDrop l k).1.length ≤ 48 := by
  unfold pairDrop
  split
  · rename_i h
    have h1 := pairsOk_le h
    split
    · simp; omega
    · exact h1
  · simp
theorem set_split {α : Type} (y : α) : ∀ (l : List α) (n : Nat), n < l.length → l.set n y = l.take n ++ y :: l.drop (n + 1)
  | [], n, h => by simp at h
  | x :: l, 0, h => by simp
  | x :: l, n + 1, h => by simp at h; simp [set_split y l n h]

/-! #### History -/
/-- An answer is valid and no seal's. -/
def ansOk (a : S120) : Bool := decide (0 ≤ a.f0.f0 ∧ a.f0.f0 ≤ 3) && decide (1 ≤ a.f0.f1 ∧ a.f0.f1 ≤ 999) && cmdOk a.f0.f2.f0 a.f0.f2.f1 a.f0.f2.f2 a.f0.f2.f3 && decide (¬ a.f0.f2.f0 = 5)
/-- The map after answers; nothing if a reply is not right. -/
def runHist : List S181 → List S120 → List S181 × Bool
  | l, [] => (l, true)
  | l, a :: r =>
    if a.f1 = -2 then runHist l r
    else if a.f1 = pairGet l a.f0.f2.f1 then
      (if a.f0.f2.f0 = 3 then runHist (pairDrop l a.f0.f2.f1).1 r
       else if a.f0.f2.f0 = 2 ∨ (a.f0.f2.f0 = 4 ∧ a.f0.f2.f3 = pairGet l a.f0.f2.f1) then (if (pairPut l a.f0.f2.f1 a.f0.f2.f2).2 = true then runHist (pairPut l a.f0.f2.f1 a.f0.f2.f2).1 r else ([], false))
       else runHist l r)
    else ([], false)
def runHistory (l : List S120) : List S181 × Bool := if decide (l.length ≤ 200) && l.all ansOk then runHist [] l else ([], false)
theorem ansOk_kind {a : S120} (h : ansOk a = true) : 1 ≤ a.f0.f2.f0 ∧ a.f0.f2.f0 ≤ 4 := by
  simp only [ansOk, cmdOk, Bool.and_eq_true, decide_eq_true_eq] at h
  omega

/-! #### RepliesRight -/
def ansOf (x : S32) : S120 := ⟨⟨x.f0, x.f1, ⟨x.f2.f0, x.f2.f1, x.f2.f2, x.f2.f3⟩⟩, x.f3⟩
def answers (xs : List S32) (o : List Int) : List S120 := o.map fun i => ansOf (rd_T32 xs i)
def repliesRight (xs : List S32) (o : List Int) : Bool := decide (xs.length ≤ 5) && xs.all resOk && orderOk xs.length o && (runHistory (answers xs o)).2

/-! #### bless -/
theorem bless_irrefl : ∀ x : List UInt8, Op.bytesLess x x = false
  | [] => by simp [Op.bytesLess]
  | a :: x => by simp [Op.bytesLess, bless_irrefl x, UInt8.lt_irrefl]
theorem bless_total : ∀ x y : List UInt8, Op.bytesLess x y = false → Op.bytesLess y x = false → x = y
  | [], [], _, _ => rfl
  | [], b :: y, h, _ => by simp [Op.bytesLess] at h
  | a :: x, [], _, h => by simp [Op.bytesLess] at h
  | a :: x, b :: y, h, h2 => by
    simp only [Op.bytesLess, Bool.or_eq_false_iff, decide_eq_false_iff_not, Bool.and_eq_false_iff] at h h2
    have e : a = b := by
      apply UInt8.toNat_inj.1
      have h1 : ¬ a.toNat < b.toNat := fun c => h.1 (UInt8.lt_iff_toNat_lt.2 c)
      have h3 : ¬ b.toNat < a.toNat := fun c => h2.1 (UInt8.lt_iff_toNat_lt.2 c)
      omega
    subst e
    have hx : Op.bytesLess x y = false := by rcases h.2 with h | h; · simp at h
                                             · exact h
    have hy : Op.bytesLess y x = false := by rcases h2.2 with h | h; · simp at h
                                             · exact h
    rw [bless_total x y hx hy]
theorem bless_trans : ∀ x y z : List UInt8, Op.bytesLess x y = true → Op.bytesLess y z = true → Op.bytesLess x z = true
  | [], _, [], h, h2 => by cases h2' : Op.bytesLess ([] : List UInt8) [] <;> simp_all [Op.bytesLess]
  | [], _, c :: z, _, _ => by simp [Op.bytesLess]
  | a :: x, [], _, h, _ => by simp [Op.bytesLess] at h
  | a :: x, b :: y, [], _, h => by simp [Op.bytesLess] at h
  | a :: x, b :: y, c :: z, h, h2 => by
    simp only [Op.bytesLess, Bool.or_eq_true, decide_eq_true_eq, Bool.and_eq_true, beq_iff_eq] at h h2 ⊢
    simp only [UInt8.lt_iff_toNat_lt] at h h2 ⊢
    rcases h with h | ⟨e, h⟩
    · rcases h2 with h2 | ⟨e2, h2⟩
      · left; omega
      · left; subst e2; exact h
    · rcases h2 with h2 | ⟨e2, h2⟩
      · left; subst e; exact h2
      · right; exact ⟨e.trans e2, bless_trans x y z h h2⟩

/-! #### impl_pairmap -/
theorem cmp_Compare_f (a b : ByteArray) : cmp_Compare_string.f a b = some (if klt a b = true then -1 else if klt b a = true then 1 else 0) := by
  have h : ∀ s : ByteArray, cmp_isNaN_string.f s = some false := fun s => by unfold cmp_isNaN_string.f; simp
  unfold cmp_Compare_string.f klt
  rw [h, h]
  simp only [Option.bind_some, Bool.false_eq_true, if_false]
  split
  · rfl
  · split <;> rfl
theorem impl_pairPlace1_f (a : ByteArray) (v : Int) (b : ByteArray) : impl_pairPlace_1.f a v b = some (if klt a b = true then -1 else if klt b a = true then 1 else 0) := by
  unfold impl_pairPlace_1.f
  rw [cmp_Compare_f]; rfl
theorem klt_trans {a b c : ByteArray} (h : klt a b = true) (h2 : klt b c = true) : klt a c = true := bless_trans _ _ _ h h2
theorem klt_irrefl (a : ByteArray) : klt a a = false := bless_irrefl _
theorem klt_total {a b : ByteArray} (h : klt a b = false) (h2 : klt b a = false) : a = b := toList_eq.1 (bless_total _ _ h h2)
/-- All keys of a list that ascend from p on are greater than p's. -/
theorem pairsFrom_all : ∀ (l : List S181) (p : ByteArray), pairsFrom (some p) l = true → ∀ y ∈ l, klt p y.f0 = true
  | [], p, _, y, hy => by cases hy
  | x :: xs, p, h, y, hy => by
    simp only [pairsFrom, Bool.and_eq_true] at h
    have hx : klt p x.f0 = true := h.1.2
    rcases List.mem_cons.1 hy with rfl | hy
    · exact hx
    · exact klt_trans hx (pairsFrom_all xs x.f0 h.2 y hy)
/-- In a list that ascends: before the place keys are less, behind it they are not. -/
theorem place_split (k : ByteArray) : ∀ (l : List S181) (p : Option ByteArray), pairsFrom p l = true → ∀ (i : Nat) (h : i < l.length), klt (l[i]).f0 k = decide (i < place k l)
  | [], p, _, i, h => by simp at h
  | x :: xs, p, hp, i, h => by
    simp only [pairsFrom, Bool.and_eq_true] at hp
    have ha := pairsFrom_all xs x.f0 hp.2
    by_cases e : klt x.f0 k = true
    · simp only [place, if_pos e]
      cases i with
      | zero => simpa using e
      | succ i =>
        have := place_split k xs _ hp.2 i (by simpa using h)
        simp only [List.getElem_cons_succ, this, decide_eq_decide]
        omega
    · simp only [place, if_neg e]
      cases i with
      | zero => simpa using e
      | succ i =>
        simp only [List.getElem_cons_succ, Nat.not_lt_zero, decide_false]
        cases hb : klt (xs[i]'(by simpa using h)).f0 k with
        | false => rfl
        | true => exact absurd (klt_trans (ha _ (List.getElem_mem _)) hb) e
theorem rd_getElem (l : List S181) (i : Int) (h : i.toNat < l.length) : rd_T181 l i = l[i.toNat] := by
  unfold rd_T181
  rw [List.getD_eq_getElem?_getD, List.getElem?_eq_getElem h]; rfl
theorem half_ (a b : Int) (ha : 0 ≤ a) (hb : 0 ≤ b) (ha2 : a ≤ 1000000) (hb2 : b ≤ 1000000) : wrap64 (IntKind.u64.wrap (wrap64 (a + b)) / 2) = (a + b) / 2 := by
  have e : IntKind.u64.wrap (a + b) = a + b := by
    simp only [IntKind.wrap, IntKind.signed, IntKind.bits, Bool.false_and, Bool.false_eq_true, if_false]
    omega
  rw [w64 (n := a + b) (by omega) (by omega), e, w64 (by omega) (by omega)]
theorem impl_search_l0 (xs : List S181) (k : ByteArray) (hok : pairsOk xs = true) : ∀ (n : Nat) (i j : Int), j - i ≤ n → 0 ≤ i → i ≤ (place k xs : Int) → (place k xs : Int) ≤ j → j ≤ xs.length →
    impl_Pair_string.l0L xs k (xs.length : Int) i j = some ((place k xs : Int), hit k xs)
  | n, i, j, hn, h0, hi, hj, hl => by
    have h48 := pairsOk_le hok
    have hp := place_le k xs
    rw [impl_Pair_string.l0L_eq]
    by_cases e : i < j
    · match n with
      | 0 => omega
      | n + 1 =>
        have hr := rd_getElem xs ((i + j) / 2) (by omega)
        have hs := place_split k xs none (by simp only [pairsOk, Bool.and_eq_true, decide_eq_true_eq] at hok; exact hok.2) ((i + j) / 2).toNat (by omega)
        rw [if_pos e, half_ i j (by omega) (by omega) (by omega) (by omega), if_pos (by omega), if_pos (by omega), impl_pairPlace1_f, Option.bind_some, hr, hs]
        by_cases c : ((i + j) / 2).toNat < place k xs
        · rw [decide_eq_true c, if_pos rfl, if_pos (by omega), w64 (by omega) (by omega)]
          exact impl_search_l0 xs k hok n _ j (by omega) (by omega) (by omega) hj hl
        · rw [decide_eq_false c, if_neg (show ¬ (false = true) by simp)]
          have c2 : ¬ (if klt k (xs[((i + j) / 2).toNat]'(by omega)).f0 = true then (1 : Int) else 0) < 0 := by split <;> omega
          rw [if_neg c2]
          exact impl_search_l0 xs k hok n i _ (by omega) h0 hi (by omega) (by omega)
    · have hij : i = (place k xs : Int) := by omega
      rw [if_neg e, hij]
      by_cases c : (place k xs : Int) < (xs.length : Int)
      · have hr := rd_getElem xs (place k xs : Int) (by omega)
        have hs := place_split k xs none (by simp only [pairsOk, Bool.and_eq_true, decide_eq_true_eq] at hok; exact hok.2) (place k xs) (by omega)
        rw [if_pos c, if_pos (by omega), if_pos c, impl_pairPlace1_f, Option.bind_some]
        have hrd : rd_T181 xs (place k xs : Int) = xs[place k xs]'(by omega) := by rw [hr]; rfl
        rw [hrd, hs, decide_eq_false (by omega), if_neg (show ¬ (false = true) by simp)]
        have : hit k xs = ((if klt k (xs[place k xs]'(by omega)).f0 = true then (1 : Int) else 0) == 0) := by
          unfold hit
          rw [hrd]
          cases hb : klt k (xs[place k xs]'(by omega)).f0 with
          | true =>
            rw [if_pos rfl, decide_eq_false]
            · rfl
            · rintro ⟨_, he⟩; rw [he, klt_irrefl] at hb; cases hb
          | false =>
            rw [if_neg (by simp), decide_eq_true ⟨by omega, klt_total (by rw [hs]; simp) hb⟩]; rfl
        rw [this]
      · rw [if_neg c]
        have : hit k xs = false := by unfold hit; rw [decide_eq_false (fun h => c (by omega))]
        rw [this]
theorem impl_pairPlace_f (xs : List S181) (k : ByteArray) (hok : pairsOk xs = true) : impl_pairPlace.fL xs k = some ((place k xs : Int), hit k xs) := by
  have hp := place_le k xs
  rw [impl_pairPlace.fL_eq, impl_Pair_string.fL_eq, impl_search_l0 xs k hok xs.length 0 (xs.length : Int) (by omega) (by omega) (by omega) (by omega) (by omega), Option.bind_some]

/-! #### impl_PairsValid -/
theorem impl_PairsValid_l0 (xs : List S181) (hx : xs.length ≤ 48) : ∀ (ys : List S181) (i : Int) (p : Option ByteArray), 0 ≤ i → i ≤ xs.length → xs.drop i.toNat = ys → (i = 0 → p = none) → (0 < i → p = some (rd_T181 xs (i - 1)).f0) → impl_PairsValid.l0L xs xs (xs.length : Int) i = some (pairsFrom p ys)
  | [], i, p, h0, h1, hd, hp0, hp1 => by
    have := drop_nil h0 h1 hd
    rw [impl_PairsValid.l0L_eq, if_neg (by omega)]; rfl
  | y :: ys, i, p, h0, h1, hd, hp0, hp1 => by
    obtain ⟨hr0, hl, hd'⟩ := getD_cons (d := z181) h0 hd
    have hr : rd_T181 xs i = y := hr0
    have hnext := impl_PairsValid_l0 xs hx ys (i + 1) (some y.f0) (by omega) (by omega) hd' (fun h => by omega) (fun _ => by rw [show i + 1 - 1 = i by omega, hr])
    rw [impl_PairsValid.l0L_eq, if_pos hl, if_pos h0, if_pos hl, hr, impl_KeyValid_f, Option.bind_some, impl_valueValid_f, Option.bind_some]
    simp only [impl_PairsValid.j1L_eq, w64 (n := i - 1) (by omega) (by omega), w64 (n := i + 1) (by omega) (by omega), if_true, pairsFrom, pairItem]
    cases hk : keyOk (bs y.f0) with
    | false => simp
    | true =>
      by_cases hv : 0 ≤ y.f1 ∧ y.f1 ≤ 999
      · rw [decide_eq_true hv]
        by_cases hi : i > 0
        · rw [if_pos rfl, if_neg (by simp), if_pos hi, if_pos (by omega), if_pos (by omega), hp1 hi, hnext]
          simp only [above, klt]
          cases Op.bytesLess (rd_T181 xs (i - 1)).f0.toList y.f0.toList <;> simp
        · rw [if_pos rfl, if_neg (by simp), if_neg hi, hp0 (by omega), hnext]
          simp [above]
      · rw [decide_eq_false hv]; simp
theorem impl_PairsValid_f (xs : List S181) : impl_PairsValid.fL xs = some (pairsOk xs) := by
  rw [impl_PairsValid.fL_eq]
  unfold pairsOk
  by_cases h : (xs.length : Int) > 48
  · rw [if_pos h, decide_eq_false (by omega)]; rfl
  · rw [if_neg h, decide_eq_true (by omega), impl_PairsValid_l0 xs (by omega) xs 0 none (by omega) (by omega) (by simp) (fun _ => rfl) (fun h => by omega)]; rfl

/-! #### impl_PairGet -/
theorem impl_PairGet_f (xs : List S181) (k : ByteArray) : impl_PairGet.fL xs k = some (pairGet xs k) := by
  rw [impl_PairGet.fL_eq, impl_PairsValid_f, Option.bind_some]
  unfold pairGet
  by_cases h1 : pairsOk xs = true
  · rw [if_pos h1, if_pos h1, impl_pairPlace_f xs k h1, Option.bind_some]
    dsimp only
    by_cases h : hit k xs = true
    · have := hit_lt h
      rw [if_pos h, if_pos (by omega), if_pos (by omega), if_pos h]
    · rw [if_neg h, if_neg h]
  · rw [if_neg h1, if_neg h1]

/-! #### impl_copyPairs -/
theorem impl_copyOf_f (xs : List S181) (hx : xs.length ≤ 1000000000000) : impl_Pair_126.f xs = some xs := by
  unfold impl_Pair_126.f
  rw [if_pos (by simp; omega)]; simp

/-! #### impl_replacedPairs -/
theorem impl_replaced_f (xs ys : List S181) (i m : Nat) (hi : i + m ≤ xs.length) (hx : xs.length ≤ 1000000) (hy : ys.length ≤ 1000000) : impl_Pair_192.f xs (i : Int) (m : Int) ys = some (xs.take i ++ ys ++ xs.drop (i + m)) := by
  unfold impl_Pair_192.f
  have e1 : (([] : List S181) ++ xs.take i).length ≤ 1000000 := by simp; omega
  have e2 : (([] : List S181) ++ xs.take i ++ ys).length ≤ 2000000 := by simp; omega
  rw [w64 (n := (xs.length : Int) - m) (by omega) (by omega), w64 (n := (xs.length : Int) - m + ys.length) (by omega) (by omega), w64 (n := (i : Int) + m) (by omega) (by omega), if_pos (by omega), if_pos (by omega), Option.bind_some, if_pos (by omega), if_pos (by omega), Option.bind_some,
    Int.toNat_natCast, if_pos (by simp; omega), Option.bind_some, if_pos (by omega), Option.bind_some, if_pos (by omega), if_pos (by omega), Option.bind_some, if_pos (by simp; omega), show ((i : Int) + m).toNat = i + m by omega, List.nil_append]

/-! #### impl_PairPut -/
theorem impl_PairPut_f (xs : List S181) (k : ByteArray) (v : Int) : impl_PairPut.fL xs k v = some (pairPut xs k v) := by
  have hj : impl_PairPut.j0L xs k v true = some ([], false) := by rw [impl_PairPut.j0L_eq, if_pos rfl]
  rw [impl_PairPut.fL_eq, impl_PairsValid_f, Option.bind_some]
  unfold pairPut
  by_cases h1 : pairsOk xs = true
  · have h48 := pairsOk_le h1
    have hp := place_le k xs
    rw [if_pos h1, impl_KeyValid_f, Option.bind_some]
    by_cases h2 : keyOk (bs k) = true
    · rw [if_pos h2, impl_valueValid_f, Option.bind_some]
      by_cases h3 : 0 ≤ v ∧ v ≤ 999
      · rw [if_pos ⟨h1, h2, h3⟩, decide_eq_true h3, Bool.not_true, impl_PairPut.j0L_eq, if_neg (by simp), impl_pairPlace_f xs k h1, Option.bind_some]
        dsimp only
        by_cases h : hit k xs = true
        · have := hit_lt h
          have hr := impl_replaced_f xs [⟨k, v⟩] (place k xs) 1 (by omega) (by omega) (by simp)
          rw [if_pos h, if_pos h, show (1 : Int) = ((1 : Nat) : Int) from rfl, hr, Option.bind_some]; simp
        · rw [if_neg h, if_neg h]
          by_cases h4 : 48 ≤ xs.length
          · rw [if_pos (by omega), if_pos h4, impl_copyOf_f xs (by omega), Option.bind_some]
          · have hr := impl_replaced_f xs [⟨k, v⟩] (place k xs) 0 (by omega) (by omega) (by simp)
            rw [if_neg (by omega), if_neg h4, show (0 : Int) = ((0 : Nat) : Int) from rfl, hr, Option.bind_some]; simp
      · rw [decide_eq_false h3, Bool.not_false, hj, if_neg (fun h => h3 h.2.2)]
    · rw [if_neg h2, hj, if_neg (fun h => h2 h.2.1)]
  · rw [if_neg h1, hj, if_neg (fun h => h1 h.1)]

/-! #### impl_PairDrop -/
theorem impl_PairDrop_f (xs : List S181) (k : ByteArray) : impl_PairDrop.fL xs k = some (pairDrop xs k) := by
  rw [impl_PairDrop.fL_eq, impl_PairsValid_f, Option.bind_some]
  unfold pairDrop
  by_cases h1 : pairsOk xs = true
  · have h48 := pairsOk_le h1
    rw [if_pos h1, if_pos h1, impl_pairPlace_f xs k h1, Option.bind_some]
    dsimp only
    by_cases h : hit k xs = true
    · have := hit_lt h
      have hr := impl_replaced_f xs [] (place k xs) 1 (by omega) (by omega) (by simp)
      rw [if_pos h, if_pos h, show (1 : Int) = ((1 : Nat) : Int) from rfl, hr, Option.bind_some]; simp
    · rw [if_neg h, if_neg h, impl_copyOf_f xs (by omega), Option.bind_some]
  · rw [if_neg h1, if_neg h1]

/-! #### impl_RunHistory -/
theorem impl_EntryValid_a (a : S120) : impl_EntryValid.fL a.f0.f0 a.f0.f1 a.f0.f2.f0 a.f0.f2.f1 a.f0.f2.f2 a.f0.f2.f3 = some (decide (0 ≤ a.f0.f0 ∧ a.f0.f0 ≤ 3) && decide (1 ≤ a.f0.f1 ∧ a.f0.f1 ≤ 999) && cmdOk a.f0.f2.f0 a.f0.f2.f1 a.f0.f2.f2 a.f0.f2.f3) := by
  rw [impl_EntryValid.fL_eq, impl_seqValid_f, Option.bind_some, impl_CommandValid_f, Option.bind_some]
  by_cases h1 : a.f0.f0 ≥ 0
  · rw [if_pos h1]
    by_cases h2 : a.f0.f0 < 4
    · rw [if_pos h2, decide_eq_true (p := 0 ≤ a.f0.f0 ∧ a.f0.f0 ≤ 3) (by omega), Bool.true_and]
      cases decide (1 ≤ a.f0.f1 ∧ a.f0.f1 ≤ 999) <;> simp
    · rw [if_neg h2, decide_eq_false (p := 0 ≤ a.f0.f0 ∧ a.f0.f0 ≤ 3) (by omega)]; simp
  · rw [if_neg h1, decide_eq_false (p := 0 ≤ a.f0.f0 ∧ a.f0.f0 ≤ 3) (by omega)]; simp
theorem impl_RunHistory_l0 (xs : List S120) (hx : xs.length ≤ 200) : ∀ (ys : List S120) (l : List S181) (i : Int), 0 ≤ i → i ≤ xs.length → xs.drop i.toNat = ys → impl_RunHistory.l0L l xs (xs.length : Int) i = some (if ys.all ansOk = true then runHist l ys else ([], false))
  | [], l, i, h0, h1, hd => by
    have := drop_nil h0 h1 hd
    rw [impl_RunHistory.l0L_eq, if_neg (by omega)]; rfl
  | y :: ys, l, i, h0, h1, hd => by
    obtain ⟨hr0, hl, hd'⟩ := getD_cons (d := z120) h0 hd
    have hr : rd_T120 xs i = y := hr0
    have ih := fun l' => impl_RunHistory_l0 xs hx ys l' (i + 1) (by omega) (by omega) hd'
    rw [impl_RunHistory.l0L_eq, if_pos hl, if_pos h0, if_pos hl, hr, impl_EntryValid_a, Option.bind_some]
    have hj : ∀ b : Bool, impl_RunHistory.j1L l xs (xs.length : Int) i b y.f0.f0 y.f0.f1 y.f0.f2.f0 y.f0.f2.f1 y.f0.f2.f2 y.f0.f2.f3 y.f1 = if b = true then some ([], false) else some (if ys.all ansOk = true then runHist l (y :: ys) else ([], false)) := by
      intro b
      rw [impl_RunHistory.j1L_eq, w64 (by omega) (by omega)]
      cases b with
      | true => rw [if_pos rfl, if_pos rfl]
      | false =>
        rw [if_neg (by simp), if_neg (show ¬ (false = true) by simp)]
        simp only [runHist]
        by_cases e : y.f1 = -2
        · rw [if_pos e, if_pos e, ih]
        · rw [if_neg e, if_neg e, impl_mapAfter.fL_eq, impl_PairGet_f, Option.bind_some, impl_PairDrop_f, impl_PairPut_f]
          by_cases e2 : y.f1 = pairGet l y.f0.f2.f1
          · rw [if_pos e2, if_pos e2]
            by_cases e3 : y.f0.f2.f0 = 3
            · rw [if_pos e3, if_pos e3, Option.bind_some, Option.bind_some, if_pos rfl, ih]
            · rw [if_neg e3, if_neg e3]
              by_cases e4 : y.f0.f2.f0 = 2
              · rw [if_pos e4, if_pos (show (y.f0.f2.f0 = 2 ∨ (y.f0.f2.f0 = 4 ∧ y.f0.f2.f3 = pairGet l y.f0.f2.f1)) from .inl e4), Option.bind_some, Option.bind_some]
                by_cases e5 : (pairPut l y.f0.f2.f1 y.f0.f2.f2).2 = true
                · rw [if_pos e5, if_pos e5, ih]
                · rw [if_neg e5, if_neg e5]; split <;> rfl
              · rw [if_neg e4]
                by_cases e6 : y.f0.f2.f0 = 4
                · rw [if_pos e6]
                  by_cases e7 : y.f0.f2.f3 = pairGet l y.f0.f2.f1
                  · rw [if_pos e7, if_pos (show (y.f0.f2.f0 = 2 ∨ (y.f0.f2.f0 = 4 ∧ y.f0.f2.f3 = pairGet l y.f0.f2.f1)) from .inr ⟨e6, e7⟩), Option.bind_some, Option.bind_some]
                    by_cases e5 : (pairPut l y.f0.f2.f1 y.f0.f2.f2).2 = true
                    · rw [if_pos e5, if_pos e5, ih]
                    · rw [if_neg e5, if_neg e5]; split <;> rfl
                  · rw [if_neg e7, if_neg (show ¬ (y.f0.f2.f0 = 2 ∨ (y.f0.f2.f0 = 4 ∧ y.f0.f2.f3 = pairGet l y.f0.f2.f1)) from fun h => h.elim e4 fun h => e7 h.2), Option.bind_some, if_pos rfl, ih]
                · rw [if_neg e6, if_neg (show ¬ (y.f0.f2.f0 = 2 ∨ (y.f0.f2.f0 = 4 ∧ y.f0.f2.f3 = pairGet l y.f0.f2.f1)) from fun h => h.elim e4 fun h => e6 h.1), Option.bind_some, if_pos rfl, ih]
          · rw [if_neg e2, if_neg e2, Option.bind_some, if_neg (by simp)]; split <;> rfl
    simp only [hj, beq_dec]
    have ha : ansOk y = (decide (0 ≤ y.f0.f0 ∧ y.f0.f0 ≤ 3) && decide (1 ≤ y.f0.f1 ∧ y.f0.f1 ≤ 999) && cmdOk y.f0.f2.f0 y.f0.f2.f1 y.f0.f2.f2 y.f0.f2.f3 && decide (¬ y.f0.f2.f0 = 5)) := rfl
    rw [List.all_cons, ha]
    cases (decide (0 ≤ y.f0.f0 ∧ y.f0.f0 ≤ 3) && decide (1 ≤ y.f0.f1 ∧ y.f0.f1 ≤ 999) && cmdOk y.f0.f2.f0 y.f0.f2.f1 y.f0.f2.f2 y.f0.f2.f3) with
    | false => simp
    | true =>
      by_cases e : y.f0.f2.f0 = 5
      · simp [e]
      · simp [e]
theorem impl_RunHistory_f (xs : List S120) : impl_RunHistory.fL xs = some (runHistory xs) := by
  rw [impl_RunHistory.fL_eq]
  unfold runHistory
  by_cases h : (xs.length : Int) > 200
  · rw [if_pos h, decide_eq_false (by omega), if_neg (by simp)]
  · rw [if_neg h, decide_eq_true (by omega), impl_RunHistory_l0 xs (by omega) xs [] 0 (by omega) (by omega) (by simp), Bool.true_and]

/-! #### impl_RepliesRight -/
theorem impl_RepliesRight_l0 (xs : List S32) (o : List Int) (ho : o.length ≤ 5) (hr : ∀ m ∈ o, 0 ≤ m ∧ m < xs.length) : ∀ (ys : List Int) (out : List S120) (i : Int), 0 ≤ i → i ≤ o.length → (out.length : Int) ≤ i → o.drop i.toNat = ys → impl_RepliesRight.l0L xs out o (o.length : Int) i = some (runHistory (out ++ answers xs ys)).2
  | [], out, i, h0, h1, hl0, hd => by
    have := drop_nil h0 h1 hd
    rw [impl_RepliesRight.l0L_eq, if_neg (by omega), impl_RunHistory_f, Option.bind_some]; simp [answers]
  | y :: ys, out, i, h0, h1, hl0, hd => by
    obtain ⟨hz, hl, hd'⟩ := rd_drop h0 hd
    have hm : y ∈ o := by
      have : y ∈ o.drop i.toNat := by rw [hd]; exact List.mem_cons_self
      exact List.mem_of_mem_drop this
    have hy := hr y hm
    rw [impl_RepliesRight.l0L_eq, if_pos hl, if_pos h0, if_pos hl, hz, if_pos hy.1, if_pos hy.2, if_pos (by omega), w64 (by omega) (by omega), impl_RepliesRight_l0 xs o ho hr ys _ (i + 1) (by omega) (by omega) (by simp; omega) hd']
    simp [answers, ansOf]
theorem impl_RepliesRight_f (xs : List S32) (o : List Int) : impl_RepliesRight.fL xs o = some (repliesRight xs o) := by
  have hj : impl_RepliesRight.j0L xs o true = some false := by rw [impl_RepliesRight.j0L_eq, if_pos rfl]
  rw [impl_RepliesRight.fL_eq, impl_resultsValid_f, Option.bind_some]
  unfold repliesRight
  by_cases h : (decide (xs.length ≤ 5) && xs.all resOk) = true
  · rw [if_pos h, h, impl_OrderValid_f, Option.bind_some]
    by_cases h2 : orderOk xs.length o = true
    · have hi := (orderOk_iff _ _).1 h2
      rw [h2, Bool.not_true, impl_RepliesRight.j0L_eq, if_neg (by simp), impl_RepliesRight_l0 xs o hi.1 hi.2.2.1 o [] 0 (by omega) (by omega) (by simp) (by simp)]; simp
    · rw [show orderOk xs.length o = false by simpa using h2, Bool.not_false, hj]; rfl
  · rw [if_neg h, hj, show (decide (xs.length ≤ 5) && xs.all resOk) = false by simpa using h]; rfl

/-! #### spec_pairs -/
theorem spec_PairsValid_l0 (xs : List S181) (hx : xs.length ≤ 48) : ∀ (ys : List S181) (i : Int) (p : Option ByteArray), 0 ≤ i → i ≤ xs.length → xs.drop i.toNat = ys → (i = 0 → p = none) → (0 < i → p = some (rd_T181 xs (i - 1)).f0) → spec_PairsValid.l0L xs i = some (pairsFrom p ys)
  | [], i, p, h0, h1, hd, hp0, hp1 => by
    have := drop_nil h0 h1 hd
    rw [spec_PairsValid.l0L_eq, if_neg (by omega)]; rfl
  | y :: ys, i, p, h0, h1, hd, hp0, hp1 => by
    obtain ⟨hr0, hl, hd'⟩ := getD_cons (d := z181) h0 hd
    have hr : rd_T181 xs i = y := hr0
    have hnext := spec_PairsValid_l0 xs hx ys (i + 1) (some y.f0) (by omega) (by omega) hd' (fun h => by omega) (fun _ => by rw [show i + 1 - 1 = i by omega, hr])
    rw [spec_PairsValid.l0L_eq, if_pos hl, if_pos h0, hr, spec_KeyValid_f, Option.bind_some, spec_l1In_f, Option.bind_some]
    simp only [w64 (n := i - 1) (by omega) (by omega), w64 (n := i + 1) (by omega) (by omega), pairsFrom, pairItem]
    cases hk : keyOk (bs y.f0) with
    | false => simp
    | true =>
      by_cases hv : 0 ≤ y.f1 ∧ y.f1 ≤ 999
      · rw [decide_eq_true hv]
        by_cases hi : i > 0
        · rw [if_pos rfl, if_pos rfl, if_pos hi, if_pos (by omega), if_pos (by omega), hp1 hi, hnext]
          simp only [above, klt]
          cases Op.bytesLess (rd_T181 xs (i - 1)).f0.toList y.f0.toList <;> simp
        · rw [if_pos rfl, if_pos rfl, if_neg hi, hp0 (by omega), hnext]
          simp [above]
      · rw [decide_eq_false hv]; simp
theorem spec_PairsValid_f (xs : List S181) : spec_PairsValid.fL xs = some (pairsOk xs) := by
  rw [spec_PairsValid.fL_eq]
  unfold pairsOk
  by_cases h : (xs.length : Int) > 48
  · rw [if_pos h, decide_eq_false (by omega)]; rfl
  · rw [if_neg h, decide_eq_true (by omega), spec_PairsValid_l0 xs (by omega) xs 0 none (by omega) (by omega) (by simp) (fun _ => rfl) (fun h => by omega)]; rfl

/-! #### spec_pairmap -/
theorem spec_l4Place_l0 (xs : List S181) (k : ByteArray) (hx : xs.length ≤ 1000000000000) : ∀ (ys : List S181) (i : Int), 0 ≤ i → i ≤ xs.length → xs.drop i.toNat = ys → spec_l4Place.l0L xs k i = some (i + (place k ys : Int))
  | [], i, h0, h1, hd => by
    have := drop_nil h0 h1 hd
    rw [spec_l4Place.l0L_eq, if_neg (by omega)]; simp [place]
  | y :: ys, i, h0, h1, hd => by
    obtain ⟨hr0, hl, hd'⟩ := getD_cons (d := z181) h0 hd
    have hr : rd_T181 xs i = y := hr0
    rw [spec_l4Place.l0L_eq, if_pos hl, if_pos h0, hr]
    by_cases h : klt y.f0 k = true
    · rw [if_pos (show Op.bytesLess y.f0.toList k.toList = true from h), w64 (by omega) (by omega), spec_l4Place_l0 xs k hx ys (i + 1) (by omega) (by omega) hd']
      simp only [place, if_pos h]
      congr 1; omega
    · rw [if_neg (show ¬ Op.bytesLess y.f0.toList k.toList = true from h)]
      simp only [place, if_neg h]
      congr 1; omega
theorem spec_l4Place_f (xs : List S181) (k : ByteArray) (hx : xs.length ≤ 1000000000000) : spec_l4Place.fL xs k = some (place k xs : Int) := by
  rw [spec_l4Place.fL_eq, spec_l4Place_l0 xs k hx xs 0 (by omega) (by omega) (by simp)]
  congr 1; omega

/-! #### spec_PairGet -/
theorem spec_PairGet_f (xs : List S181) (k : ByteArray) (hx : xs.length ≤ 1000000000000) : spec_PairGet.fL xs k = some (pairGet xs k) := by
  have hp := place_le k xs
  rw [spec_PairGet.fL_eq, spec_l4Place_f xs k hx, Option.bind_some, spec_PairsValid_f, Option.bind_some]
  unfold pairGet
  by_cases h1 : pairsOk xs = true
  · rw [if_pos h1, if_pos h1]
    by_cases e : (place k xs : Int) = (xs.length : Int)
    · have : ¬ hit k xs = true := fun h => by have := hit_lt h; omega
      rw [if_pos e, if_neg this]
    · rw [if_neg e, if_pos (by omega), if_pos (by omega)]
      by_cases e2 : (rd_T181 xs (place k xs : Int)).f0 = k
      · have hh : hit k xs = true := decide_eq_true ⟨by omega, e2⟩
        rw [if_pos (by rw [e2]), if_pos hh]
      · have hh : ¬ hit k xs = true := fun h => e2 (hit_key h)
        rw [if_neg (fun h => e2 (toList_eq.1 h)), if_neg hh]
  · rw [if_neg h1, if_neg h1]

/-! #### spec_PairPut -/
theorem spec_PairPut_f (xs : List S181) (k : ByteArray) (v : Int) (hx : xs.length ≤ 1000000000000) : spec_PairPut.fL xs k v = some (pairPut xs k v) := by
  have hj : ∀ y : List S181, spec_PairPut.j0L xs k v y true = some (y, false) := fun y => by rw [spec_PairPut.j0L_eq, if_pos rfl]
  rw [spec_PairPut.fL_eq, Option.bind_some, spec_PairsValid_f, Option.bind_some]
  unfold pairPut
  by_cases h1 : pairsOk xs = true
  · rw [if_pos h1, spec_KeyValid_f, Option.bind_some]
    by_cases h2 : keyOk (bs k) = true
    · rw [if_pos h2, spec_l1In_f, Option.bind_some]
      by_cases h3 : 0 ≤ v ∧ v ≤ 999
      · have hp := place_le k xs
        rw [if_pos ⟨h1, h2, h3⟩, decide_eq_true h3, Bool.not_true, spec_PairPut.j0L_eq, if_neg (by simp), spec_l4Place_f xs k hx, Option.bind_some]
        have hj1 : ∀ b : Bool, (hit k xs = b) → spec_PairPut.j1L xs k v [] (place k xs : Int) b = some (if hit k xs = true then (xs.take (place k xs) ++ ⟨k, v⟩ :: xs.drop (place k xs + 1), true) else if 48 ≤ xs.length then (xs, false) else (xs.take (place k xs) ++ ⟨k, v⟩ :: xs.drop (place k xs), true)) := by
          intro b hb
          rw [spec_PairPut.j1L_eq, hb]
          cases b with
          | true =>
            have hl := hit_lt hb
            have hk := hit_key hb
            rw [if_pos rfl, if_pos (by simp; omega), Option.bind_some, if_pos (by omega), if_pos (by simp; omega), if_pos rfl]
            rw [List.nil_append, hk, Int.toNat_natCast, set_split _ _ _ hl]
          | false =>
            rw [if_neg (by simp), if_neg (show ¬ (false = true) by simp)]
            by_cases h4 : 48 ≤ xs.length
            · rw [if_pos (by omega), if_pos (by simp; omega), if_pos h4]; simp
            · have e1 : (([] : List S181) ++ xs.take (place k xs)).length ≤ 1000000000000 := by simp; omega
              have e2 : (([] : List S181) ++ xs.take (place k xs) ++ [(⟨k, v⟩ : S181)]).length ≤ 1000000000000 := by simp; omega
              rw [if_neg (by omega), if_neg h4, if_pos (by omega), if_pos (by omega), Int.toNat_natCast, Option.bind_some, if_pos (by simp; omega), Option.bind_some, if_pos (by omega), Option.bind_some, Option.bind_some, if_pos (by simp; omega)]
              simp
        by_cases e : (place k xs : Int) < (xs.length : Int)
        · rw [if_pos e, if_pos (by omega)]
          refine hj1 _ ?_
          unfold hit
          by_cases e2 : (rd_T181 xs (place k xs : Int)).f0 = k
          · rw [decide_eq_true ⟨by omega, e2⟩, e2]; simp
          · rw [decide_eq_false (fun h => e2 h.2)]
            symm; rw [beq_eq_false_iff_ne]; intro h; exact e2 (toList_eq.1 h)
        · rw [if_neg e]
          refine hj1 _ ?_
          unfold hit
          rw [decide_eq_false (fun h => e (by omega))]
      · rw [decide_eq_false h3, Bool.not_false, hj, if_neg (fun h => h3 h.2.2)]
    · rw [if_neg h2, hj, if_neg (fun h => h2 h.2.1)]
  · rw [if_neg h1, hj, if_neg (fun h => h1 h.1)]

/-! #### spec_PairDrop -/
theorem spec_PairDrop_f (xs : List S181) (k : ByteArray) (hx : xs.length ≤ 1000000000000) : spec_PairDrop.fL xs k = some (pairDrop xs k) := by
  have hp := place_le k xs
  rw [spec_PairDrop.fL_eq, Option.bind_some, spec_PairsValid_f, Option.bind_some]
  unfold pairDrop
  by_cases h1 : pairsOk xs = true
  · have h48 := pairsOk_le h1
    rw [if_pos h1, if_pos h1, spec_l4Place_f xs k hx, Option.bind_some]
    by_cases e : (place k xs : Int) = (xs.length : Int)
    · have : ¬ hit k xs = true := fun h => by have := hit_lt h; omega
      rw [if_pos e, if_pos (by simp; omega), if_neg this, List.nil_append]
    · rw [if_neg e, if_pos (by omega), if_pos (by omega)]
      by_cases e2 : (rd_T181 xs (place k xs : Int)).f0 = k
      · have hh : hit k xs = true := decide_eq_true ⟨by omega, e2⟩
        rw [if_pos (by rw [e2]), if_pos (by omega), Option.bind_some, if_pos (by simp; omega), Option.bind_some, w64 (by omega) (by omega), if_pos (by omega), if_pos (by omega), Option.bind_some, if_pos (by simp; omega), if_pos hh]
        rw [Int.toNat_natCast, show ((place k xs : Int) + 1).toNat = place k xs + 1 by omega, List.nil_append]
      · have hh : ¬ hit k xs = true := fun h => e2 (hit_key h)
        rw [if_neg (fun h => e2 (toList_eq.1 h)), if_pos (by simp; omega), if_neg hh, List.nil_append]
  · rw [if_neg h1, if_neg h1]

/-! #### spec_RunHistory -/
theorem spec_EntryValid_a (a : S120) : spec_EntryValid.fL a.f0.f0 a.f0.f1 a.f0.f2.f0 a.f0.f2.f1 a.f0.f2.f2 a.f0.f2.f3 = some (decide (0 ≤ a.f0.f0 ∧ a.f0.f0 ≤ 3) && decide (1 ≤ a.f0.f1 ∧ a.f0.f1 ≤ 999) && cmdOk a.f0.f2.f0 a.f0.f2.f1 a.f0.f2.f2 a.f0.f2.f3) := by
  rw [spec_EntryValid.fL_eq, spec_l1In_f, Option.bind_some, spec_l1In_f, Option.bind_some, spec_CommandValid_f, Option.bind_some]
  cases decide (0 ≤ a.f0.f0 ∧ a.f0.f0 ≤ 3) <;> cases decide (1 ≤ a.f0.f1 ∧ a.f0.f1 ≤ 999) <;> simp
theorem spec_RunHistory_l1 (xs : List S120) (hx : xs.length ≤ 200) (hok : ∀ a ∈ xs, ansOk a = true) : ∀ (ys : List S120) (l : List S181) (i : Int), l.length ≤ 48 → 0 ≤ i → i ≤ xs.length → xs.drop i.toNat = ys → spec_RunHistory.l1L xs l i = some (runHist l ys)
  | [], l, i, hl0, h0, h1, hd => by
    have := drop_nil h0 h1 hd
    rw [spec_RunHistory.l1L_eq, if_neg (by omega)]; rfl
  | y :: ys, l, i, hl0, h0, h1, hd => by
    obtain ⟨hr0, hl, hd'⟩ := getD_cons (d := z120) h0 hd
    have hr : rd_T120 xs i = y := hr0
    have hy : y ∈ xs := by
      have : y ∈ xs.drop i.toNat := by rw [hd]; exact List.mem_cons_self
      exact List.mem_of_mem_drop this
    have hk := ansOk_kind (hok y hy)
    have ih := fun l' (hl' : l'.length ≤ 48) => spec_RunHistory_l1 xs hx hok ys l' (i + 1) hl' (by omega) (by omega) hd'
    have hdl := pairDrop_length l y.f0.f2.f1
    have hpl := pairPut_length l y.f0.f2.f1 y.f0.f2.f2
    rw [spec_RunHistory.l1L_eq, if_pos hl, if_pos h0, hr, w64 (by omega) (by omega), spec_l29one.fL_eq, spec_PairGet_f l _ (by omega), Option.bind_some, spec_PairDrop_f l _ (by omega), spec_PairPut_f l _ _ (by omega)]
    simp only [runHist]
    by_cases e : y.f1 = -2
    · rw [if_pos e, if_pos e, Option.bind_some, if_pos rfl, ih l hl0]
    · rw [if_neg e, if_neg e]
      by_cases e2 : y.f1 = pairGet l y.f0.f2.f1
      · rw [if_pos e2, if_pos e2]
        by_cases e3 : y.f0.f2.f0 = 3
        · rw [if_pos e3, if_pos e3, Option.bind_some, Option.bind_some, if_pos rfl, ih _ hdl]
        · rw [if_neg e3, if_neg e3]
          by_cases e6 : y.f0.f2.f0 = 4
          · rw [if_pos e6]
            by_cases e7 : y.f0.f2.f3 = pairGet l y.f0.f2.f1
            · rw [if_pos e7, if_pos (show (y.f0.f2.f0 = 2 ∨ (y.f0.f2.f0 = 4 ∧ y.f0.f2.f3 = pairGet l y.f0.f2.f1)) from .inr ⟨e6, e7⟩), Option.bind_some, Option.bind_some]
              by_cases e5 : (pairPut l y.f0.f2.f1 y.f0.f2.f2).2 = true
              · rw [if_pos e5, if_pos e5, ih _ hpl]
              · rw [if_neg e5, if_neg e5]
            · rw [if_neg e7, if_neg (show ¬ (y.f0.f2.f0 = 2 ∨ (y.f0.f2.f0 = 4 ∧ y.f0.f2.f3 = pairGet l y.f0.f2.f1)) from fun h => h.elim (fun h => by omega) fun h => e7 h.2), Option.bind_some, if_pos rfl, ih l hl0]
          · rw [if_neg e6]
            by_cases e1 : y.f0.f2.f0 = 1
            · rw [if_pos e1, if_neg (show ¬ (y.f0.f2.f0 = 2 ∨ (y.f0.f2.f0 = 4 ∧ y.f0.f2.f3 = pairGet l y.f0.f2.f1)) from fun h => by omega), Option.bind_some, if_pos rfl, ih l hl0]
            · rw [if_neg e1, if_pos (show (y.f0.f2.f0 = 2 ∨ (y.f0.f2.f0 = 4 ∧ y.f0.f2.f3 = pairGet l y.f0.f2.f1)) from .inl (by omega)), Option.bind_some, Option.bind_some]
              by_cases e5 : (pairPut l y.f0.f2.f1 y.f0.f2.f2).2 = true
              · rw [if_pos e5, if_pos e5, ih _ hpl]
              · rw [if_neg e5, if_neg e5]
      · rw [if_neg e2, if_neg e2, Option.bind_some, if_neg (by simp)]
theorem spec_RunHistory_l0 (xs : List S120) (hx : xs.length ≤ 1000000000000) : ∀ (ys : List S120) (i : Int), 0 ≤ i → i ≤ xs.length → xs.drop i.toNat = ys → spec_RunHistory.l0L xs [] i = if (xs.length : Int) ≤ (if ys = [] then i else 200) ∧ ys.all ansOk = true then spec_RunHistory.l1L xs [] 0 else if ys = [] then spec_RunHistory.l1L xs [] 0 else some ([], false)
  | [], i, h0, h1, hd => by
    have := drop_nil h0 h1 hd
    rw [spec_RunHistory.l0L_eq, if_neg (by omega)]; simp
  | y :: ys, i, h0, h1, hd => by
    obtain ⟨hr0, hl, hd'⟩ := getD_cons (d := z120) h0 hd
    have hr : rd_T120 xs i = y := hr0
    have ih := spec_RunHistory_l0 xs hx ys (i + 1) (by omega) (by omega) hd'
    have hylen : (xs.length : Int) = i + 1 + ys.length := by
      have := congrArg List.length hd'
      rw [List.length_drop] at this
      omega
    rw [spec_RunHistory.l0L_eq, if_pos hl, hr, spec_EntryValid_a, Option.bind_some, w64 (by omega) (by omega), ih, if_neg (show ¬ (y :: ys = []) by simp), if_neg (show ¬ (y :: ys = []) by simp), List.all_cons]
    have ha : ansOk y = (decide (0 ≤ y.f0.f0 ∧ y.f0.f0 ≤ 3) && decide (1 ≤ y.f0.f1 ∧ y.f0.f1 ≤ 999) && cmdOk y.f0.f2.f0 y.f0.f2.f1 y.f0.f2.f2 y.f0.f2.f3 && decide (¬ y.f0.f2.f0 = 5)) := rfl
    by_cases h200 : i ≥ 200
    · rw [if_pos h200, if_neg (fun h => by omega)]
    · rw [if_neg h200, if_pos h0, ha]
      cases (decide (0 ≤ y.f0.f0 ∧ y.f0.f0 ≤ 3) && decide (1 ≤ y.f0.f1 ∧ y.f0.f1 ≤ 999) && cmdOk y.f0.f2.f0 y.f0.f2.f1 y.f0.f2.f2 y.f0.f2.f3) with
      | false => simp
      | true =>
        by_cases e : y.f0.f2.f0 = 5
        · simp [e]
        · rw [if_pos rfl, if_neg e, decide_eq_true (p := ¬ y.f0.f2.f0 = 5) e]
          cases ys with
          | nil =>
            have : (xs.length : Int) ≤ 200 := by simp at hylen; omega
            simp [this]
          | cons w ws => rw [if_neg (show ¬ (w :: ws = []) by simp), if_neg (show ¬ (w :: ws = []) by simp)]; simp
theorem spec_RunHistory_f (xs : List S120) (hx : xs.length ≤ 1000000000000) : spec_RunHistory.fL xs = some (runHistory xs) := by
  rw [spec_RunHistory.fL_eq, spec_RunHistory_l0 xs hx xs 0 (by omega) (by omega) (by simp)]
  unfold runHistory
  cases xs with
  | nil =>
    rw [if_pos (by simp), spec_RunHistory_l1 [] (by simp) (by simp) [] [] 0 (by simp) (by omega) (by omega) rfl]; simp
  | cons y ys =>
    rw [if_neg (show ¬ (y :: ys = []) by simp), if_neg (show ¬ (y :: ys = []) by simp)]
    by_cases h : (y :: ys).length ≤ 200 ∧ (y :: ys).all ansOk = true
    · rw [if_pos ⟨by omega, h.2⟩, decide_eq_true h.1, h.2, if_pos (by simp), spec_RunHistory_l1 (y :: ys) h.1 (List.all_eq_true.1 h.2) (y :: ys) [] 0 (by simp) (by omega) (by omega) rfl]
    · rw [if_neg (fun h2 => h ⟨by omega, h2.2⟩), if_neg (fun h2 => h (by simpa using h2))]

/-! #### spec_RepliesRight -/
theorem spec_RepliesRight_l0 (xs : List S32) (o : List Int) (ho : o.length ≤ 5) (hr : ∀ m ∈ o, 0 ≤ m ∧ m < xs.length) : ∀ (ys : List Int) (out : List S120) (i : Int), 0 ≤ i → i ≤ o.length → (out.length : Int) ≤ i → o.drop i.toNat = ys → spec_RepliesRight.l0L xs o out i = some ((ys.all fun m => resOk (rd_T32 xs m)) && (runHistory (out ++ answers xs ys)).2)
  | [], out, i, h0, h1, hl0, hd => by
    have := drop_nil h0 h1 hd
    rw [spec_RepliesRight.l0L_eq, if_neg (by omega), spec_RunHistory_f _ (by omega), Option.bind_some]; simp [answers]
  | y :: ys, out, i, h0, h1, hl0, hd => by
    obtain ⟨hz, hl, hd'⟩ := rd_drop h0 hd
    have hm : y ∈ o := by
      have : y ∈ o.drop i.toNat := by rw [hd]; exact List.mem_cons_self
      exact List.mem_of_mem_drop this
    have hy := hr y hm
    rw [spec_RepliesRight.l0L_eq, if_pos hl, if_pos h0, hz, if_pos hy.1, if_pos hy.2, spec_ResultValid_f, Option.bind_some, List.all_cons]
    cases resOk (rd_T32 xs y) with
    | false => simp
    | true =>
      rw [if_pos rfl, if_pos (by omega), w64 (by omega) (by omega), spec_RepliesRight_l0 xs o ho hr ys _ (i + 1) (by omega) (by omega) (by simp; omega) hd']
      simp [answers, ansOf]
theorem spec_RepliesRight_f (xs : List S32) (o : List Int) : spec_RepliesRight.fL xs o = some (repliesRight xs o) := by
  rw [spec_RepliesRight.fL_eq, spec_OrderValid_f, Option.bind_some]
  unfold repliesRight
  by_cases h2 : orderOk xs.length o = true
  · have hi := (orderOk_iff _ _).1 h2
    rw [if_pos h2, spec_RepliesRight_l0 xs o hi.1 hi.2.2.1 o [] 0 (by omega) (by omega) (by simp) (by simp), all_over h2, h2, decide_eq_true (p := xs.length ≤ 5) (by omega)]
    simp
  · have h2' : orderOk xs.length o = false := by simpa using h2
    rw [if_neg h2, h2']; simp

/-! #### FindOrder -/
def ups : Nat → Int → List Int
  | 0, _ => []
  | n + 1, d => d :: ups n (d + 1)
theorem ups_length : ∀ (n : Nat) (d : Int), (ups n d).length = n
  | 0, _ => rfl
  | n + 1, d => by simp [ups, ups_length n]
theorem mem_ups : ∀ (n : Nat) (d x : Int), d ≤ x → x < d + n → x ∈ ups n d
  | 0, d, x, h, h2 => by omega
  | n + 1, d, x, h, h2 => by
    simp only [ups, List.mem_cons]
    by_cases e : x = d
    · exact Or.inl e
    · exact Or.inr (mem_ups n (d + 1) x (by omega) (by omega))
theorem nodup_le : ∀ (c l : List Int), c.Nodup → (∀ x ∈ c, x ∈ l) → c.length ≤ l.length
  | [], l, _, _ => by simp
  | x :: c, l, h, hs => by
    rw [List.nodup_cons] at h
    have hx : x ∈ l := hs x List.mem_cons_self
    have hl := List.length_erase_of_mem hx
    have hp : 0 < l.length := List.length_pos_of_mem hx
    have := nodup_le c (l.erase x) h.2 (fun y hy => (List.mem_erase_of_ne (fun e => h.1 (by rw [← e]; exact hy))).2 (hs y (List.mem_cons_of_mem _ hy)))
    simp only [List.length_cons]
    omega
theorem full (n : Nat) (c : List Int) (hn : c.Nodup) (hr : ∀ y ∈ c, 0 ≤ y ∧ y < n) (hl : c.length = n) (d : Int) (h0 : 0 ≤ d) (h1 : d < n) : d ∈ c := by
  by_cases e : d ∈ c
  · exact e
  · exfalso
    have := nodup_le (d :: c) (ups n 0) (List.nodup_cons.2 ⟨e, hn⟩) (fun x hx => by
      rcases List.mem_cons.1 hx with rfl | hx
      · exact mem_ups n 0 _ h0 (by omega)
      · exact mem_ups n 0 x (hr x hx).1 (by have := (hr x hx).2; omega))
    rw [ups_length] at this
    simp only [List.length_cons] at this
    omega
def good (xs : List S32) (o : List Int) : Bool := realTime xs o && repliesRight xs o
def tryL (f : Int → List Int × Bool) (c : List Int) : List Int → List Int × Bool
  | [] => ([], false)
  | d :: ds => if d ∈ c then tryL f c ds else if (f d).2 = true then ((f d).1, true) else tryL f c ds
def srch (xs : List S32) : Nat → List Int → List Int × Bool
  | 0, c => (c, good xs c)
  | m + 1, c => tryL (fun d => srch xs m (c ++ [d])) c (ups xs.length 0)
theorem tryL_false (f : Int → List Int × Bool) (c : List Int) : ∀ l : List Int, (tryL f c l).2 = false → tryL f c l = ([], false)
  | [], _ => rfl
  | d :: ds, h => by
    unfold tryL at h ⊢
    by_cases e : d ∈ c
    · rw [if_pos e] at h ⊢; exact tryL_false f c ds h
    · rw [if_neg e] at h ⊢
      by_cases k : (f d).2 = true
      · rw [if_pos k] at h; cases h
      · rw [if_neg k] at h ⊢; exact tryL_false f c ds h
theorem tryL_true (f : Int → List Int × Bool) (c : List Int) : ∀ l : List Int, (tryL f c l).2 = true → ∃ d, (f d).2 = true
  | [], h => by cases h
  | d :: ds, h => by
    unfold tryL at h
    by_cases e : d ∈ c
    · rw [if_pos e] at h; exact tryL_true f c ds h
    · rw [if_neg e] at h
      by_cases k : (f d).2 = true
      · exact ⟨d, k⟩
      · rw [if_neg k] at h; exact tryL_true f c ds h
theorem srch_good (xs : List S32) : ∀ (m : Nat) (c : List Int), (srch xs m c).2 = true → xs.all resOk = true
  | 0, c, h => by
    simp only [srch, good, realTime, Bool.and_eq_true] at h
    exact h.1.1.1.2
  | m + 1, c, h => by
    obtain ⟨d, hd⟩ := tryL_true _ _ _ h
    exact srch_good xs m _ hd
def findOrder (xs : List S32) : List Int × Bool := if xs.length ≤ 5 ∧ xs.all resOk = true then srch xs xs.length [] else ([], false)
theorem copyInts_f (xs : List Int) (h : xs.length ≤ 1000000) : impl_copyOf_int.f xs = some xs := by
  unfold impl_copyOf_int.f
  rw [if_pos (by simp; omega)]; simp
theorem impl_orderFrom_l0 (xs : List S32) (hx : xs.length ≤ 5) (m : Nat) (ih : ∀ c : List Int, c.length + m = xs.length → impl_orderFrom.fL xs c = some (srch xs m c)) (c : List Int) (hc : c.length + (m + 1) = xs.length) :
    ∀ (k : Nat) (d : Int), 0 ≤ d → d + k = xs.length → impl_orderFrom.l0L xs c (xs.length : Int) d = some (tryL (fun d => srch xs m (c ++ [d])) c (ups k d))
  | 0, d, h0, h1 => by rw [impl_orderFrom.l0L_eq, if_neg (by omega)]; rfl
  | k + 1, d, h0, h1 => by
    have r := impl_orderFrom_l0 xs hx m ih c hc k (d + 1) (by omega) (by omega)
    rw [impl_orderFrom.l0L_eq, if_pos (by omega), slices_Contains_f _ _ (by omega), Option.bind_some, w64 (by omega) (by omega), r]
    simp only [ups, tryL]
    by_cases e : d ∈ c
    · rw [if_pos (decide_eq_true e), if_pos e]
    · rw [if_neg (by simp [e]), if_neg e, copyInts_f _ (by omega), Option.bind_some, if_pos (by omega), ih _ (by simp; omega), Option.bind_some]
      by_cases q : (srch xs m (c ++ [d])).2 = true
      · rw [if_pos q, if_pos q]
      · rw [if_neg q, if_neg q]
theorem impl_orderFrom_f (xs : List S32) (hx : xs.length ≤ 5) : ∀ (m : Nat) (c : List Int), c.length + m = xs.length → impl_orderFrom.fL xs c = some (srch xs m c)
  | 0, c, h => by
    rw [impl_orderFrom.fL_eq, if_pos (by omega), copyInts_f _ (by omega), Option.bind_some, impl_RealTime_f, Option.bind_some]
    simp only [srch, good]
    cases hr : realTime xs c with
    | true => rw [if_pos rfl, impl_RepliesRight_f, Option.bind_some]; rfl
    | false => rw [if_neg (by simp)]; rfl
  | m + 1, c, h => by
    rw [impl_orderFrom.fL_eq, if_neg (by omega), impl_orderFrom_l0 xs hx m (impl_orderFrom_f xs hx m) c h xs.length 0 (by omega) (by omega)]
    rfl
theorem impl_FindOrder_f (xs : List S32) : impl_FindOrder.fL xs = some (findOrder xs) := by
  rw [impl_FindOrder.fL_eq, impl_resultsValid_f, Option.bind_some]
  unfold findOrder
  by_cases h : xs.length ≤ 5 ∧ xs.all resOk = true
  · rw [if_pos (by simp only [Bool.and_eq_true, decide_eq_true_eq]; exact h), if_pos h, impl_orderFrom_f xs h.1 xs.length [] (by simp), Option.bind_some]
  · rw [if_neg (by simp only [Bool.and_eq_true, decide_eq_true_eq]; exact h), if_neg h]
def nxt (c : List Int) : List Int → List Int × Bool
  | [] => (c, false)
  | d :: ds => if d ∈ c then nxt c ds else (c ++ [d], true)
theorem l39next_l1 (c : List Int) (n d : Int) (hc : c.length ≤ 5) (h0 : 0 ≤ d) (h5 : d ≤ 5) : ∀ (zs : List Int) (b : Bool) (i : Int), 0 ≤ i → i ≤ c.length → c.drop i.toNat = zs → spec_l39next.l1L c n d b i = if (b = true ∨ d ∈ zs) then spec_l39next.l0L c n (d + 1) else some (c ++ [d], true)
  | [], b, i, h0, h1, hd => by
    have := drop_nil h0 h1 hd
    rw [spec_l39next.l1L_eq, if_neg (by omega)]
    cases b with
    | true => rw [if_pos rfl, if_pos (Or.inl rfl), w64 (by omega) (by omega)]
    | false =>
      rw [if_neg (by simp), if_neg (by simp), Option.bind_some]
      simp only [List.length_nil, List.nil_append]
      rw [if_pos (by omega), Option.bind_some, if_pos (by omega)]
  | z :: zs, b, i, h0, h1, hd => by
    obtain ⟨hz, hl, hd'⟩ := rd_drop h0 hd
    rw [spec_l39next.l1L_eq, if_pos hl, w64 (n := i + 1) (by omega) (by omega)]
    cases b with
    | true => rw [if_pos rfl, l39next_l1 c n d hc (by assumption) h5 zs true (i + 1) (by omega) (by omega) hd', if_pos (Or.inl rfl), if_pos (Or.inl rfl)]
    | false =>
      rw [if_neg (by simp), if_pos h0, hz, l39next_l1 c n d hc (by assumption) h5 zs (z == d) (i + 1) (by omega) (by omega) hd']
      by_cases e : z = d
      · subst e; rw [if_pos (by simp), if_pos (by simp)]
      · by_cases q : d ∈ zs
        · rw [if_pos (Or.inr q), if_pos (Or.inr (List.mem_cons_of_mem _ q))]
        · rw [if_neg (by simp [e, q]), if_neg (by simp [q]; exact fun x => e x.symm)]
theorem l39next_f (c : List Int) (n : Int) (hc : c.length ≤ 5) (hn : n ≤ 5) : ∀ (k : Nat) (d : Int), 0 ≤ d → d + k = n → spec_l39next.l0L c n d = some (nxt c (ups k d))
  | 0, d, h0, h1 => by rw [spec_l39next.l0L_eq, if_neg (by omega)]; rfl
  | k + 1, d, h0, h1 => by
    rw [spec_l39next.l0L_eq, if_pos (by omega), l39next_l1 c n d hc h0 (by omega) c false 0 (by omega) (by omega) (by simp), l39next_f c n hc hn k (d + 1) (by omega) (by omega)]
    simp only [ups, nxt]
    by_cases e : d ∈ c
    · rw [if_pos (Or.inr e), if_pos e]
    · rw [if_neg (by simp [e]), if_neg e]
theorem nxt_full (c : List Int) : ∀ l : List Int, (∀ d ∈ l, d ∈ c) → nxt c l = (c, false)
  | [], _ => rfl
  | d :: l, h => by simp only [nxt]; rw [if_pos (h d List.mem_cons_self)]; exact nxt_full c l (fun x hx => h x (List.mem_cons_of_mem _ hx))
theorem ups_mem : ∀ (n : Nat) (d x : Int), x ∈ ups n d → d ≤ x ∧ x < d + n
  | 0, d, x, h => by simp [ups] at h
  | n + 1, d, x, h => by
    simp only [ups, List.mem_cons] at h
    rcases h with rfl | h
    · omega
    · have := ups_mem n (d + 1) x h; omega
theorem spec_back (xs : List S32) (n : Int) (c : List Int) (d : Int) (hc : c.length ≤ 5) (h0 : 0 ≤ d) (h1 : d ≤ 5) : spec_FindOrder.j1L xs n (c ++ [d]) false = spec_FindOrder.l0L xs n c (d + 1) := by
  have hl : ((c ++ [d]).length : Int) = c.length + 1 := by simp
  have hd : (c ++ [d]).drop ((c.length : Int)).toNat = [d] := by simp
  obtain ⟨hr, _, _⟩ := rd_drop (by omega) hd
  rw [spec_FindOrder.j1L_eq, if_neg (by simp), hl, w64 (by omega) (by omega), show ((c.length : Int) + 1 - 1) = c.length by omega, if_neg (by omega), if_pos (by omega), if_pos (by omega), Option.bind_some, if_pos (by omega), Option.bind_some, hr, w64 (by omega) (by omega)]
  simp only [List.length_nil, List.nil_append, Int.toNat_natCast, List.take_left']
  rw [if_pos (by simp; omega)]
theorem spec_same (xs : List S32) (n : Int) (c : List Int) (d : Int) (h : spec_l39next.fL c d n = spec_l39next.fL c (d + 1) n) : spec_FindOrder.l0L xs n c d = spec_FindOrder.l0L xs n c (d + 1) := by
  rw [spec_FindOrder.l0L_eq xs n c d, spec_FindOrder.l0L_eq xs n c (d + 1), h]
theorem spec_FindOrder_l0 (xs : List S32) (hx : xs.length ≤ 5) (m : Nat) (ih : ∀ c : List Int, c.length + m = xs.length → c.Nodup → (∀ y ∈ c, 0 ≤ y ∧ y < xs.length) → spec_FindOrder.l0L xs (xs.length : Int) c 0 = if (srch xs m c).2 = true then some (srch xs m c) else spec_FindOrder.j1L xs (xs.length : Int) c false)
    (c : List Int) (hc : c.length + (m + 1) = xs.length) (hn : c.Nodup) (hr : ∀ y ∈ c, 0 ≤ y ∧ y < xs.length) :
    ∀ (k : Nat) (d : Int), 0 ≤ d → d + k = xs.length → spec_FindOrder.l0L xs (xs.length : Int) c d = if (tryL (fun d => srch xs m (c ++ [d])) c (ups k d)).2 = true then some (tryL (fun d => srch xs m (c ++ [d])) c (ups k d)) else spec_FindOrder.j1L xs (xs.length : Int) c false
  | 0, d, h0, h1 => by
    rw [spec_FindOrder.l0L_eq, spec_l39next.fL_eq, l39next_f c _ (by omega) (by omega) 0 d h0 h1, Option.bind_some]
    simp only [ups, nxt, tryL]
    rw [if_neg (by simp), if_neg (by omega), if_neg (by simp)]
  | k + 1, d, h0, h1 => by
    have r := spec_FindOrder_l0 xs hx m ih c hc hn hr k (d + 1) (by omega) (by omega)
    by_cases e : d ∈ c
    · rw [spec_same xs _ c d (by
        rw [spec_l39next.fL_eq, spec_l39next.fL_eq, l39next_f c _ (by omega) (by omega) (k + 1) d h0 h1, l39next_f c _ (by omega) (by omega) k (d + 1) (by omega) (by omega)]
        simp only [ups, nxt]; rw [if_pos e]), r]
      simp only [ups, tryL]; rw [if_pos e]
    · rw [spec_FindOrder.l0L_eq, spec_l39next.fL_eq, l39next_f c _ (by omega) (by omega) (k + 1) d h0 h1, Option.bind_some]
      simp only [ups, nxt, tryL]
      rw [if_neg e, if_neg e]
      dsimp only
      rw [if_pos rfl, ih (c ++ [d]) (by simp; omega) (by
        rw [List.nodup_append]
        exact ⟨hn, by simp, fun a ha b hb => by simp at hb; subst hb; exact fun q => e (q ▸ ha)⟩) (fun y hy => by
        rcases List.mem_append.1 hy with h | h
        · exact hr y h
        · simp at h; omega)]
      by_cases q : (srch xs m (c ++ [d])).2 = true
      · rw [if_pos q, if_pos q, if_pos rfl, ← q]
      · rw [if_neg q, if_neg q, spec_back xs _ c d (by omega) h0 (by omega), r]
theorem spec_FindOrder_s (xs : List S32) (hx : xs.length ≤ 5) : ∀ (m : Nat) (c : List Int), c.length + m = xs.length → c.Nodup → (∀ y ∈ c, 0 ≤ y ∧ y < xs.length) → spec_FindOrder.l0L xs (xs.length : Int) c 0 = if (srch xs m c).2 = true then some (srch xs m c) else spec_FindOrder.j1L xs (xs.length : Int) c false
  | 0, c, h, hn, hr => by
    rw [spec_FindOrder.l0L_eq, spec_l39next.fL_eq, l39next_f c _ (by omega) (by omega) xs.length 0 (by omega) (by omega), nxt_full c _ (fun d hd => by
      have := ups_mem _ _ _ hd
      exact full xs.length c hn hr (by omega) d (by omega) (by omega)), Option.bind_some]
    dsimp only
    rw [if_neg (by simp), if_pos (by omega), spec_RealTime_f, Option.bind_some]
    have e : srch xs 0 c = (c, realTime xs c && repliesRight xs c) := rfl
    rw [e]
    cases hrt : realTime xs c with
    | false => rw [if_neg (by simp), if_neg (by simp)]
    | true =>
      rw [if_pos rfl, spec_RepliesRight_f, Option.bind_some]
      cases hrr : repliesRight xs c with
      | false => rw [if_neg (by simp)]
      | true => rw [if_pos (by simp), spec_FindOrder.j1L_eq, if_pos rfl]; rfl
  | m + 1, c, h, hn, hr => spec_FindOrder_l0 xs hx m (spec_FindOrder_s xs hx m) c h hn hr xs.length 0 (by omega) (by omega)
theorem spec_FindOrder_f (xs : List S32) : spec_FindOrder.fL xs = some (findOrder xs) := by
  rw [spec_FindOrder.fL_eq]
  unfold findOrder
  by_cases h : (xs.length : Int) > 5
  · rw [if_pos h, if_neg (fun q => by omega)]
  · rw [if_neg h, spec_FindOrder_s xs (by omega) xs.length [] (by simp) (by simp) (by simp)]
    by_cases q : (srch xs xs.length []).2 = true
    · rw [if_pos q, if_pos ⟨by omega, srch_good _ _ _ q⟩]
    · rw [if_neg q, spec_FindOrder.j1L_eq, if_neg (by simp), if_pos (by simp)]
      have q' : (srch xs xs.length []).2 = false := by simpa using q
      split
      · cases hn : xs.length with
        | zero => rw [hn] at q'; simp only [srch] at q' ⊢; rw [q']
        | succ n => rw [hn] at q'; rw [show srch xs (n + 1) [] = ([], false) from tryL_false _ _ _ q']
      · rfl
theorem tryL_len (f : Int → List Int × Bool) (c : List Int) (B : Nat) (hf : ∀ d, (f d).1.length ≤ B) : ∀ l : List Int, (tryL f c l).1.length ≤ B
  | [] => by simp [tryL]
  | d :: ds => by
    unfold tryL
    split
    · exact tryL_len f c B hf ds
    · split
      · exact hf d
      · exact tryL_len f c B hf ds
theorem srch_len (xs : List S32) : ∀ (m : Nat) (c : List Int), (srch xs m c).1.length ≤ c.length + m
  | 0, c => by simp [srch]
  | m + 1, c => tryL_len _ _ _ (fun d => by have := srch_len xs m (c ++ [d]); simp only [List.length_append, List.length_cons, List.length_nil] at this; omega) _
theorem findOrder_len (xs : List S32) : (findOrder xs).1.length ≤ 5 := by
  unfold findOrder
  split
  · rename_i h; have := srch_len xs xs.length []; simp only [List.length_nil] at this; omega
  · simp

/-! #### intS -/
theorem set_at {α : Type} {xs : List α} {i : Nat} {y z : α} {ys : List α} (h : xs.drop i = y :: ys) : (xs.set i z).take (i + 1) = xs.take i ++ [z] ∧ (xs.set i z).drop (i + 1) = ys ∧ (xs.set i z).length = xs.length := by
  have h1 : i < xs.length := by
    by_cases e : i < xs.length
    · exact e
    · rw [List.drop_eq_nil_of_le (by omega)] at h; cases h
  rw [List.drop_eq_getElem_cons h1] at h
  injection h with ha hb
  refine ⟨?_, ?_, by simp⟩
  · rw [List.take_succ_eq_append_getElem (by simpa using h1), List.take_set_of_le (by omega)]; simp
  · rw [List.drop_set_of_lt (by omega)]; exact hb
theorem drop_take_cons {α : Type} {xs pre : List α} {i : Nat} {y : α} {ys : List α} (h : xs.drop i = y :: ys) : xs.take (i + 1) = xs.take i ++ [y] ∧ i < xs.length ∧ xs.drop (i + 1) = ys := by
  have h1 : i < xs.length := by
    by_cases e : i < xs.length
    · exact e
    · rw [List.drop_eq_nil_of_le (by omega)] at h; cases h
  rw [List.drop_eq_getElem_cons h1] at h
  injection h with ha hb
  exact ⟨by rw [List.take_succ_eq_append_getElem h1, ha], h1, hb⟩

/-! #### loops -/
theorem getD_drop {α : Type} {xs : List α} {d : α} {i : Int} {y : α} {ys : List α} (h0 : 0 ≤ i) (h : xs.drop i.toNat = y :: ys) : xs.getD i.toNat d = y ∧ i < xs.length ∧ xs.drop (i + 1).toNat = ys := by
  have h1 : i.toNat < xs.length := by
    by_cases e : i.toNat < xs.length
    · exact e
    · rw [List.drop_eq_nil_of_le (by omega)] at h; cases h
  rw [List.drop_eq_getElem_cons h1] at h
  injection h with ha hb
  refine ⟨?_, by omega, ?_⟩
  · rw [List.getD_eq_getElem?_getD, List.getElem?_eq_getElem h1]; exact ha
  · rw [show (i + 1).toNat = i.toNat + 1 by omega]; exact hb
/-- A copy, element by element, into a list of the same length. -/
theorem copy_loop {α : Type} (ys : List α) (d : α) (n : Nat) (hn : n = ys.length) (L : List α → Int → Option (List α))
    (hL : ∀ (zs : List α) (i : Int), 0 ≤ i → i ≤ n → zs.length = n → L zs i = if i < (n : Int) then L (zs.set i.toNat (ys.getD i.toNat d)) (i + 1) else some zs) :
    ∀ (ws zs : List α) (i : Int), 0 ≤ i → i ≤ n → ys.drop i.toNat = ws → zs.length = n → zs.take i.toNat = ys.take i.toNat → L zs i = some ys
  | [], zs, i, h0, h1, hd, hl, ht => by
    have := drop_nil h0 (by omega) hd
    rw [hL zs i h0 h1 hl, if_neg (by omega)]
    rw [List.take_of_length_le (by omega), List.take_of_length_le (by omega)] at ht
    rw [ht]
  | w :: ws, zs, i, h0, h1, hd, hl, ht => by
    obtain ⟨hr, hlt, hd'⟩ := getD_drop (d := d) h0 hd
    obtain ⟨t1, _, _⟩ := drop_take_cons (pre := ys) hd
    have hz : zs.drop i.toNat = zs[i.toNat]'(by omega) :: zs.drop (i.toNat + 1) := List.drop_eq_getElem_cons (by omega)
    obtain ⟨s1, s2, s3⟩ := set_at (z := w) hz
    rw [hL zs i h0 h1 hl, if_pos (by omega), hr]
    exact copy_loop ys d n hn L hL ws _ (i + 1) (by omega) (by omega) hd' (by omega) (by rw [show (i + 1).toNat = i.toNat + 1 by omega, s1, t1, ht])
/-- A comparison, element by element, of lists of the same length. -/
theorem eq_loop {α : Type} [DecidableEq α] (xs zs : List α) (d : α) (hl : xs.length = zs.length) (L : Int → Option Bool)
    (hL : ∀ i : Int, 0 ≤ i → i ≤ xs.length → L i = if i < (xs.length : Int) then (if xs.getD i.toNat d = zs.getD i.toNat d then L (i + 1) else some false) else some true) :
    ∀ (ys ws : List α) (i : Int), 0 ≤ i → i ≤ xs.length → xs.drop i.toNat = ys → zs.drop i.toNat = ws → L i = some (decide (ys = ws))
  | [], ws, i, h0, h1, hd, hw => by
    have := drop_nil h0 h1 hd
    rw [hL i h0 h1, if_neg (by omega)]
    rw [List.drop_eq_nil_of_le (by omega)] at hw
    rw [← hw]; rfl
  | y :: ys, [], i, h0, h1, hd, hw => by
    have := drop_nil h0 (by omega) hw
    obtain ⟨hr, hlt, hd'⟩ := getD_drop (d := d) h0 hd
    omega
  | y :: ys, w :: ws, i, h0, h1, hd, hw => by
    obtain ⟨hr, hlt, hd'⟩ := getD_drop (d := d) h0 hd
    obtain ⟨hr2, hlt2, hw'⟩ := getD_drop (d := d) h0 hw
    rw [hL i h0 h1, if_pos hlt, hr, hr2]
    by_cases e : y = w
    · rw [if_pos e, eq_loop xs zs d hl L hL ys ws (i + 1) (by omega) (by omega) hd' hw']
      simp [e]
    · rw [if_neg e]; simp [e]
theorem eq_loop0 {α : Type} [DecidableEq α] (xs zs : List α) (d : α) (hl : xs.length = zs.length) (L : Int → Option Bool)
    (hL : ∀ i : Int, 0 ≤ i → i ≤ xs.length → L i = if i < (xs.length : Int) then (if xs.getD i.toNat d = zs.getD i.toNat d then L (i + 1) else some false) else some true) : L 0 = some (decide (xs = zs)) :=
  eq_loop xs zs d hl L hL xs zs 0 (by omega) (by omega) (by simp) (by simp)
theorem copy_loop0 {α : Type} (ys zs : List α) (d : α) (n : Nat) (hn : n = ys.length) (hz : zs.length = n) (L : List α → Int → Option (List α))
    (hL : ∀ (zs : List α) (i : Int), 0 ≤ i → i ≤ n → zs.length = n → L zs i = if i < (n : Int) then L (zs.set i.toNat (ys.getD i.toNat d)) (i + 1) else some zs) : L zs 0 = some ys :=
  copy_loop ys d n hn L hL ys zs 0 (by omega) (by omega) (by simp) hz (by simp)
/-- Marks: an element for each number, c numbers an element. -/
def marks {α : Type} (el : Int → α) (c : Int) : Nat → Int → List α
  | 0, _ => []
  | n + 1, k => el k :: marks el c n (k + c)
theorem marks_length {α : Type} (el : Int → α) (c : Int) : ∀ (n : Nat) (k : Int), (marks el c n k).length = n
  | 0, _ => rfl
  | n + 1, k => by simp [marks, marks_length el c n]
theorem mark_loop {α : Type} (el : Int → α) (c : Int) (hc : 0 ≤ c) (hc2 : c ≤ 1000) (n : Nat) (hn : n ≤ 1000000000) (L : List α → Int → Int → Option (Int × List α))
    (hL : ∀ (zs : List α) (k i : Int), 0 ≤ i → i ≤ n → zs.length = n → 0 ≤ k → k ≤ 100000000000 + 1000 * n → L zs k i = if i < (n : Int) then L (zs.set i.toNat (el k)) (k + c) (i + 1) else some (k, zs)) :
    ∀ (ys zs : List α) (k i : Int), 0 ≤ i → i ≤ n → zs.length = n → zs.drop i.toNat = ys → 0 ≤ k → k ≤ 100000000000 + 1000 * i → L zs k i = some (k + c * ys.length, zs.take i.toNat ++ marks el c ys.length k)
  | [], zs, k, i, h0, h1, hl, hd, hk, hk2 => by
    have := drop_nil h0 (by omega) hd
    rw [hL zs k i h0 h1 hl hk (by omega), if_neg (by omega), List.take_of_length_le (by omega)]; simp [marks]
  | y :: ys, zs, k, i, h0, h1, hl, hd, hk, hk2 => by
    obtain ⟨hr, hlt, hd'⟩ := getD_drop (d := y) h0 hd
    obtain ⟨s1, s2, s3⟩ := set_at (z := el k) hd
    rw [hL zs k i h0 h1 hl hk (by omega), if_pos (by omega),
      mark_loop el c hc hc2 n hn L hL ys _ (k + c) (i + 1) (by omega) (by omega) (by omega) (by rw [show (i + 1).toNat = i.toNat + 1 by omega]; exact s2) (by omega) (by omega),
      show (i + 1).toNat = i.toNat + 1 by omega, s1]
    simp only [List.length_cons, marks, List.append_assoc, List.singleton_append]
    congr 2
    rw [show ((ys.length + 1 : Nat) : Int) = (ys.length : Int) + 1 by omega, Int.mul_add]
    omega
theorem mark_loop0 {α : Type} (el : Int → α) (c : Int) (hc : 0 ≤ c) (hc2 : c ≤ 1000) (zs : List α) (hn : zs.length ≤ 1000000000) (k : Int) (hk : 0 ≤ k) (hk2 : k ≤ 100000000000) (L : List α → Int → Int → Option (Int × List α))
    (hL : ∀ (ws : List α) (k i : Int), 0 ≤ i → i ≤ zs.length → ws.length = zs.length → 0 ≤ k → k ≤ 100000000000 + 1000 * zs.length → L ws k i = if i < (zs.length : Int) then L (ws.set i.toNat (el k)) (k + c) (i + 1) else some (k, ws)) :
    L zs k 0 = some (k + c * zs.length, marks el c zs.length k) := by
  have := mark_loop el c hc hc2 zs.length hn L hL zs zs k 0 (by omega) (by omega) rfl (by simp) hk (by omega)
  simpa using this
theorem held_loop {α : Type} (el : Int → α) (d : α) (c : Int) (hc : 0 ≤ c) (hc2 : c ≤ 1000) (zs : List α) (hn : zs.length ≤ 1000000000) (L : Int → Int → Option Int)
    (hL : ∀ k i : Int, 0 ≤ i → i ≤ zs.length → 0 ≤ k → k ≤ 100000000000 + 1000 * zs.length → (i < zs.length → zs.getD i.toNat d = el k) → L k i = if i < (zs.length : Int) then L (k + c) (i + 1) else some k) :
    ∀ (n : Nat) (k i : Int), 0 ≤ i → i ≤ zs.length → zs.drop i.toNat = marks el c n k → 0 ≤ k → k ≤ 100000000000 + 1000 * i → L k i = some (k + c * n)
  | 0, k, i, h0, h1, hd, hk, hk2 => by
    have := drop_nil h0 h1 hd
    rw [hL k i h0 h1 hk (by omega) (fun h => by omega), if_neg (by omega)]; simp
  | n + 1, k, i, h0, h1, hd, hk, hk2 => by
    obtain ⟨hr, hlt, hd'⟩ := getD_drop (d := d) h0 hd
    rw [hL k i h0 h1 hk (by omega) (fun _ => hr), if_pos hlt, held_loop el d c hc hc2 zs hn L hL n (k + c) (i + 1) (by omega) (by omega) hd' (by omega) (by omega)]
    congr 1
    rw [show ((n + 1 : Nat) : Int) = (n : Int) + 1 by omega, Int.mul_add]
    omega
theorem held_loop0 {α : Type} (el : Int → α) (d : α) (c : Int) (hc : 0 ≤ c) (hc2 : c ≤ 1000) (n : Nat) (hn : n ≤ 1000000000) (k : Int) (hk : 0 ≤ k) (hk2 : k ≤ 100000000000) (L : Int → Int → Option Int)
    (hL : ∀ k' i : Int, 0 ≤ i → i ≤ n → 0 ≤ k' → k' ≤ 100000000000 + 1000 * n → (i < n → (marks el c n k).getD i.toNat d = el k') → L k' i = if i < (n : Int) then L (k' + c) (i + 1) else some k') :
    L k 0 = some (k + c * n) := by
  have hm := marks_length el c n k
  refine held_loop el d c hc hc2 (marks el c n k) (by omega) L (fun k' i => ?_) n k 0 (by omega) (by omega) (by simp) hk (by omega)
  rw [hm]
  exact hL k' i
theorem getD_map' {α β : Type} (f : α → β) (xs : List α) (i : Nat) (d : α) (e : β) (h : i < xs.length) : (xs.map f).getD i e = f (xs.getD i d) := by
  simp [List.getD_eq_getElem?_getD, List.getElem?_eq_getElem h]

/-! #### refl_loop -/
theorem refl_loop (n : Nat) (L : Int → Option Bool) (hL : ∀ i : Int, 0 ≤ i → i ≤ n → L i = if i < (n : Int) then L (i + 1) else some true) : ∀ (m : Nat) (i : Int), i + m = n → 0 ≤ i → L i = some true
  | 0, i, h, h0 => by rw [hL i h0 (by omega), if_neg (by omega)]
  | m + 1, i, h, h0 => by rw [hL i h0 (by omega), if_pos (by omega)]; exact refl_loop n L hL m (i + 1) (by omega) (by omega)
theorem refl_loop0 (n : Nat) (L : Int → Option Bool) (hL : ∀ i : Int, 0 ≤ i → i ≤ n → L i = if i < (n : Int) then L (i + 1) else some true) : L 0 = some true := refl_loop n L hL n 0 (by omega) (by omega)

/-! #### resultS -/
theorem cmd_refl (a : Int) (b : ByteArray) (c d : Int) : laws_eqCommand.f a b c d a b c d = some true := by unfold laws_eqCommand.f; simp
theorem res_refl (x : S32) : laws_eqResult.f x.f0 x.f1 x.f2.f0 x.f2.f1 x.f2.f2 x.f2.f3 x.f3 x.f4 x.f5 x.f0 x.f1 x.f2.f0 x.f2.f1 x.f2.f2 x.f2.f3 x.f3 x.f4 x.f5 = some true := by
  unfold laws_eqResult.f; simp [cmd_refl]
theorem eqResultS_refl (xs : List S32) (hx : xs.length ≤ 1000000000000) : laws_eqResultS.fL xs xs = some true := by
  rw [laws_eqResultS.fL_eq, if_pos rfl]
  refine refl_loop0 xs.length (fun i => laws_eqResultS.l0L xs xs i) (fun i h0 h1 => ?_)
  rw [laws_eqResultS.l0L_eq]
  by_cases h : i < (xs.length : Int)
  · rw [if_pos h, if_pos h0, if_pos h, res_refl, Option.bind_some, if_pos rfl, w64 (by omega) (by omega), if_pos h]
  · rw [if_neg h, if_neg h]
def cvResult (x : S127) : S32 := ⟨x.f0, x.f1, ⟨x.f2.f0, x.f2.f1, x.f2.f2, x.f2.f3⟩, x.f3, x.f4, x.f5⟩
theorem getD_mapR {α β : Type} (f : α → β) (xs : List α) (i : Nat) (d : α) (e : β) (h : i < xs.length) : (xs.map f).getD i e = f (xs.getD i d) := by
  simp [List.getD_eq_getElem?_getD, List.getElem?_eq_getElem h]
theorem toResultS_f (xs : List S127) (hx : xs.length ≤ 1048576) : laws_toResultS.fL xs = some (xs.map cvResult) := by
  rw [laws_toResultS.fL_eq, if_pos (by omega), if_pos (by omega)]
  refine copy_loop0 (xs.map cvResult) _ z32 xs.length (by simp) (by simp) (fun zs i => laws_toResultS.l0L xs zs i) (fun zs i h0 h1 hl => ?_)
  rw [laws_toResultS.l0L_eq]
  unfold laws_toResult.f laws_toCommand.f
  by_cases h : i < (xs.length : Int)
  · rw [if_pos h, if_pos h0, Option.bind_some, Option.bind_some, if_pos (by omega), w64 (by omega) (by omega), if_pos h, getD_mapR cvResult xs i.toNat z127 _ (by omega)]; rfl
  · rw [if_neg h, if_neg h]
theorem szResult_f (x : S127) (k : Int) (hs : x.f2.f1.size ≤ 9223372036854775807) (h0 : 0 ≤ k) (h1 : k ≤ 1048576) : ∃ r, laws_szResult.f x.f0 x.f1 x.f2.f0 x.f2.f1 x.f2.f2 x.f2.f3 x.f3 x.f4 x.f5 k = some r ∧ -1 ≤ r ∧ r ≤ k := by
  unfold laws_szResult.f laws_szCommand.f
  rw [w64 (by omega) (by omega)]
  by_cases h : k - (x.f2.f1.size : Int) < 0
  · rw [if_pos h, Option.bind_some, if_pos (by omega)]; exact ⟨_, rfl, by omega, by omega⟩
  · rw [if_neg h, Option.bind_some, if_neg (by omega)]; exact ⟨_, rfl, by omega, by omega⟩
theorem szResultS_l0 (xs : List S127) (hx : xs.length ≤ 1048576) (hB : ∀ x ∈ xs, x.f2.f1.size ≤ 9223372036854775807) : ∀ (n : Nat) (i k : Int), i + n = xs.length → 0 ≤ i → 0 ≤ k → k ≤ 1048576 → ∃ r, laws_szResultS.l0L xs k i = some r ∧ r ≤ k
  | 0, i, k, hi, h0, h1, h2 => by rw [laws_szResultS.l0L_eq, if_neg (by omega)]; exact ⟨_, rfl, by omega⟩
  | n + 1, i, k, hi, h0, h1, h2 => by
    have hm : rd_T127 xs i ∈ xs := by
      unfold rd_T127
      rw [List.getD_eq_getElem?_getD, List.getElem?_eq_getElem (show i.toNat < xs.length by omega)]
      exact List.getElem_mem _
    obtain ⟨r, hr, r0, r1⟩ := szResult_f (rd_T127 xs i) k (hB _ hm) h1 h2
    rw [laws_szResultS.l0L_eq, if_pos (by omega), if_pos h0, hr, Option.bind_some, w64 (by omega) (by omega)]
    by_cases h : r < 0
    · rw [if_pos h]; exact ⟨_, rfl, by omega⟩
    · rw [if_neg h]
      obtain ⟨q, hq, hq2⟩ := szResultS_l0 xs hx hB n (i + 1) r (by omega) (by omega) (by omega) (by omega)
      exact ⟨q, hq, by omega⟩
theorem szResultS_f (xs : List S127) (k : Int) (h0 : 0 ≤ k) (h1 : k ≤ 1048576) (hl : xs.length ≤ 9223372036854775807) (hB : ∀ x ∈ xs, x.f2.f1.size ≤ 9223372036854775807) : ∃ r, laws_szResultS.fL xs k = some r ∧ (r < 0 ∨ xs.length ≤ 1048576) := by
  rw [laws_szResultS.fL_eq, w64 (by omega) (by omega)]
  by_cases h : k - (xs.length : Int) < 0
  · rw [if_pos h]; exact ⟨_, rfl, .inl (by omega)⟩
  · rw [if_neg h]
    obtain ⟨r, hr, _⟩ := szResultS_l0 xs (by omega) hB xs.length 0 (k - xs.length) (by omega) (by omega) (by omega) (by omega)
    exact ⟨r, hr, .inr (by omega)⟩

/-! #### markText -/
theorem son_size (xs : List Int) : (strOfNums xs).size = xs.length := by simp [strOfNums, ByteArray.size]
theorem markText_l0 : ∀ (n : Nat) (k : Int) (s : ByteArray), 0 ≤ k → k < 10 ^ n → k ≤ 9223372036854775807 → s.size + n ≤ 1000 → ∃ r, laws_markText.l0L k s = some r
  | 0, k, s, h0, h1, h2, hs => by
    rw [laws_markText.l0L_eq, if_neg (by simp at h1; omega), if_pos (by omega)]; exact ⟨_, rfl⟩
  | n + 1, k, s, h0, h1, h2, hs => by
    by_cases e : k > 0
    · have hd : Int.tdiv k 10 = k / 10 := Int.tdiv_eq_ediv_of_nonneg h0
      have hp : (10 : Int) ^ (n + 1) = 10 ^ n * 10 := Int.pow_succ 10 n
      have h3 : k / 10 < 10 ^ n := by omega
      rw [laws_markText.l0L_eq, if_pos e, Option.bind_some, if_pos (by rw [son_size]; simp; omega), hd, w64 (n := k / 10) (by omega) (by omega)]
      exact markText_l0 n (k / 10) _ (by omega) h3 (by omega) (by rw [ByteArray.size_append, son_size]; simp; omega)
    · rw [laws_markText.l0L_eq, if_neg e, if_pos (by omega)]; exact ⟨_, rfl⟩
theorem markText_ok (k : Int) (h0 : 0 ≤ k) (h1 : k ≤ 9223372036854775807) : ∃ r, laws_markText.fL k = some r := by
  rw [laws_markText.fL_eq]
  by_cases e : k ≤ 0
  · rw [if_pos e]; exact ⟨_, rfl⟩
  · rw [if_neg e]; exact markText_l0 30 k _ h0 (by omega) h1 (show 0 + 30 ≤ 1000 by omega)
/-- The text of a mark. -/
noncomputable def mt (k : Int) : ByteArray := (laws_markText.fL k).getD (⟨#[]⟩ : ByteArray)
theorem mt_eq (k : Int) (h0 : 0 ≤ k) (h1 : k ≤ 9223372036854775807) : laws_markText.fL k = some (mt k) := by
  obtain ⟨r, hr⟩ := markText_ok k h0 h1
  unfold mt
  rw [hr]; rfl

/-! #### markResult -/
noncomputable def elResult (k : Int) : S32 := ⟨k, k + 1, ⟨k + 1 + 1, mt (k + 1 + 1 + 1), k + 1 + 1 + 1 + 1, k + 1 + 1 + 1 + 1 + 1⟩, k + 1 + 1 + 1 + 1 + 1 + 1, k + 1 + 1 + 1 + 1 + 1 + 1 + 1, k + 1 + 1 + 1 + 1 + 1 + 1 + 1 + 1⟩
theorem rd_set_result (xs : List S32) (i : Int) (y : S32) (h0 : 0 ≤ i) (h : i < xs.length) : rd_T32 (xs.set i.toNat y) i = y := by
  unfold rd_T32
  rw [List.getD_eq_getElem?_getD, List.getElem?_set_self (by omega)]; rfl
theorem markResultS_f (xs : List S32) (k : Int) (hx : xs.length ≤ 1000000000) (hk : 0 ≤ k) (hk2 : k ≤ 100000000000) : laws_markResultS.fL xs k = some (k + 9 * xs.length, marks elResult 9 xs.length k) := by
  rw [laws_markResultS.fL_eq]
  refine mark_loop0 elResult 9 (by omega) (by omega) xs hx k hk hk2 (fun zs k i => laws_markResultS.l0L zs k i) (fun zs k i h0 h1 hl hk hk2 => ?_)
  rw [laws_markResultS.l0L_eq]
  by_cases h : i < (xs.length : Int)
  · have hz : i < (zs.length : Int) := by omega
    rw [if_pos hz, if_pos h0, Option.bind_some, w64 (n := k + 1) (by omega) (by omega), w64 (n := k + 1 + 1) (by omega) (by omega), w64 (n := k + 1 + 1 + 1) (by omega) (by omega), w64 (n := k + 1 + 1 + 1 + 1) (by omega) (by omega), w64 (n := k + 1 + 1 + 1 + 1 + 1) (by omega) (by omega),
      w64 (n := k + 1 + 1 + 1 + 1 + 1 + 1) (by omega) (by omega), w64 (n := k + 1 + 1 + 1 + 1 + 1 + 1 + 1) (by omega) (by omega), w64 (n := k + 1 + 1 + 1 + 1 + 1 + 1 + 1 + 1) (by omega) (by omega), w64 (n := k + 1 + 1 + 1 + 1 + 1 + 1 + 1 + 1 + 1) (by omega) (by omega), w64 (n := i + 1) (by omega) (by omega), mt_eq (k + 1 + 1 + 1) (by omega) (by omega), if_pos h]
    simp only [Option.bind_some, rd_set_result _ i _ h0, List.length_set, hz, List.set_set]
    rw [show k + 1 + 1 + 1 + 1 + 1 + 1 + 1 + 1 + 1 = k + 9 by omega]
    rfl
  · rw [if_neg (by omega), if_neg h]

/-! #### eqIntS -/
theorem laws_eqIntS_l0 (xs zs : List Int) (hx : xs.length ≤ 1000000000000000) (hl : xs.length = zs.length) : ∀ (ys ws : List Int) (i : Int), 0 ≤ i → i ≤ xs.length → xs.drop i.toNat = ys → zs.drop i.toNat = ws → laws_eqIntS.l0L xs zs i = some (decide (ys = ws))
  | [], ws, i, h0, h1, hd, hw => by
    have := drop_nil h0 h1 hd
    rw [laws_eqIntS.l0L_eq, if_neg (by omega)]
    rw [List.drop_eq_nil_of_le (by omega)] at hw
    rw [← hw]; rfl
  | y :: ys, [], i, h0, h1, hd, hw => by
    have := drop_nil h0 (by omega) hw
    obtain ⟨hr, hlt, hd'⟩ := rd_drop h0 hd
    omega
  | y :: ys, w :: ws, i, h0, h1, hd, hw => by
    obtain ⟨hr, hlt, hd'⟩ := rd_drop h0 hd
    obtain ⟨hr2, hlt2, hw'⟩ := rd_drop h0 hw
    rw [laws_eqIntS.l0L_eq, if_pos hlt, if_pos h0, if_pos hlt2, hr, hr2, w64 (by omega) (by omega)]
    by_cases e : y = w
    · rw [if_pos e, laws_eqIntS_l0 xs zs hx hl ys ws (i + 1) (by omega) (by omega) hd' hw']
      simp [e]
    · rw [if_neg e]; simp [e]
theorem laws_eqIntS_f (xs zs : List Int) (hx : xs.length ≤ 1000000000000000) : laws_eqIntS.fL xs zs = some (decide (xs = zs)) := by
  rw [laws_eqIntS.fL_eq]
  by_cases h : (xs.length : Int) = (zs.length : Int)
  · rw [if_pos h]; exact laws_eqIntS_l0 xs zs hx (by omega) xs zs 0 (by omega) (by omega) (by simp) (by simp)
  · rw [if_neg h, decide_eq_false (fun e => h (by rw [e]))]

/-! #### markIntS -/
def upFrom : Nat → Int → List Int
  | 0, _ => []
  | n + 1, k => k :: upFrom n (k + 1)
theorem laws_markIntS_l0 (n : Nat) (hn : n ≤ 1000000000000) : ∀ (ys zs : List Int) (k i : Int), 0 ≤ i → i ≤ zs.length → zs.length = n → zs.drop i.toNat = ys → 0 ≤ k → k ≤ 1000000000000 + i → laws_markIntS.l0L zs k i = some (k + ys.length, zs.take i.toNat ++ upFrom ys.length k)
  | [], zs, k, i, h0, h1, hl, hd, hk, hk2 => by
    have := drop_nil h0 h1 hd
    rw [laws_markIntS.l0L_eq, if_neg (by omega), List.take_of_length_le (by omega)]; simp [upFrom]
  | y :: ys, zs, k, i, h0, h1, hl, hd, hk, hk2 => by
    obtain ⟨hr, hlt, hd'⟩ := rd_drop h0 hd
    obtain ⟨s1, s2, s3⟩ := set_at (z := k) hd
    rw [laws_markIntS.l0L_eq, if_pos hlt, if_pos h0, w64 (by omega) (by omega), w64 (by omega) (by omega),
      laws_markIntS_l0 n hn ys _ (k + 1) (i + 1) (by omega) (by omega) (by omega) (by rw [show (i + 1).toNat = i.toNat + 1 by omega]; exact s2) (by omega) (by omega),
      show (i + 1).toNat = i.toNat + 1 by omega, s1]
    simp only [List.length_cons, upFrom, List.append_assoc, List.singleton_append]
    congr 2
    omega
theorem laws_markIntS_f (xs : List Int) (k : Int) (hx : xs.length ≤ 1000000000000) (hk : 0 ≤ k) (hk2 : k ≤ 1000000000000) : laws_markIntS.fL xs k = some (k + xs.length, upFrom xs.length k) := by
  rw [laws_markIntS.fL_eq, laws_markIntS_l0 xs.length hx xs xs k 0 (by omega) (by omega) rfl (by simp) hk (by omega)]
  simp
theorem laws_heldIntS_l0 (zs : List Int) (hn : zs.length ≤ 1000000000000) : ∀ (n : Nat) (k i : Int), 0 ≤ i → i ≤ zs.length → zs.drop i.toNat = upFrom n k → 0 ≤ k → k ≤ 1000000000000 + i → laws_heldIntS.l0L zs k i = some (k + n)
  | 0, k, i, h0, h1, hd, hk, hk2 => by
    have := drop_nil h0 h1 hd
    rw [laws_heldIntS.l0L_eq, if_neg (by omega)]; simp
  | n + 1, k, i, h0, h1, hd, hk, hk2 => by
    obtain ⟨hr, hlt, hd'⟩ := rd_drop h0 hd
    rw [laws_heldIntS.l0L_eq, if_pos hlt, if_pos h0, if_pos hr, w64 (by omega) (by omega), w64 (by omega) (by omega),
      laws_heldIntS_l0 zs hn n (k + 1) (i + 1) (by omega) (by omega) hd' (by omega) (by omega)]
    congr 1
    omega
theorem upFrom_length : ∀ (n : Nat) (k : Int), (upFrom n k).length = n
  | 0, _ => rfl
  | n + 1, k => by simp [upFrom, upFrom_length n]
theorem laws_heldIntS_f (n : Nat) (k : Int) (hn : n ≤ 1000000000000) (hk : 0 ≤ k) (hk2 : k ≤ 1000000000000) : laws_heldIntS.fL (upFrom n k) k = some (k + n) := by
  rw [laws_heldIntS.fL_eq]
  exact laws_heldIntS_l0 _ (by rw [upFrom_length]; exact hn) n k 0 (by omega) (by omega) (by simp) hk (by omega)

end Go.Proofs.Ytcciackemicbbaa.Pure
