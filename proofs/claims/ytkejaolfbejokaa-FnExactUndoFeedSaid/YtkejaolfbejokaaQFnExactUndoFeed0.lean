/- Lemmas for FnExactUndoFeed: what each function comes to. No condition. -/
import Derived.Test.YtkejaolfbejokaaLFnExactUndoFeed
namespace Go.Proofs.Ytkejaolfbejokaa.Pure
open Go.RowKit Go.Proofs.Ytkejaolfbejokaa.PFnExactUndoFeed Go.Proofs.YtkejaolfbejokaaW.PrintWords Go.Proofs.YtkejaolfbejokaaW.PrintLast Go.Proofs.YtkejaolfbejokaaW.PrintMore Go.Proofs.Ytkejaolfbejokaa.Lim
set_option linter.unusedVariables false
set_option linter.unusedSimpArgs false

/-! #### basic -/
theorem w64 {n : Int} (h1 : -9223372036854775808 ≤ n) (h2 : n ≤ 9223372036854775807) : wrap64 n = n := by unfold wrap64; omega
theorem wf64 {n : Int} (h : (Lit.int .i64 n).wf = true) : -9223372036854775808 ≤ n ∧ n ≤ 9223372036854775807 := by
  simp only [Lit.wf, IntKind.min, IntKind.max, IntKind.signed, IntKind.bits, Bool.and_eq_true, decide_eq_true_eq, if_true] at h
  omega
theorem wf8 {n : Int} (h : (Lit.int .u8 n).wf = true) : 0 ≤ n ∧ n ≤ 255 := by
  simp only [Lit.wf, IntKind.min, IntKind.max, IntKind.signed, IntKind.bits, Bool.and_eq_true, decide_eq_true_eq] at h
  simp at h
  omega
theorem mn_eq (a b : Int) : mn a b = if a ≤ b then a else b := by unfold mn; split <;> split <;> omega
theorem mx_eq (a b : Int) : mx a b = if a ≤ b then b else a := by unfold mx; split <;> split <;> omega
theorem rd_drop {xs : List Int} {i : Int} {y : Int} {ys : List Int} (h0 : 0 ≤ i) (h : xs.drop i.toNat = y :: ys) : rd xs i = y ∧ i < xs.length ∧ xs.drop (i + 1).toNat = ys := by
  have h1 : i.toNat < xs.length := by
    by_cases e : i.toNat < xs.length
    · exact e
    · rw [List.drop_eq_nil_of_le (by omega)] at h; cases h
  rw [List.drop_eq_getElem_cons h1] at h
  injection h with ha hb
  refine ⟨?_, by omega, ?_⟩
  · unfold rd; rw [List.getD_eq_getElem?_getD, List.getElem?_eq_getElem h1]; exact ha
  · rw [show (i + 1).toNat = i.toNat + 1 by omega]; exact hb
theorem drop_nil {α : Type} {xs : List α} {i : Int} (h0 : 0 ≤ i) (hi : i ≤ xs.length) (h : xs.drop i.toNat = []) : i = xs.length := by
  have := congrArg List.length h
  simp at this
  omega
theorem rdOf_drop {α : Type} {d : α} {xs : List α} {i : Int} {y : α} {ys : List α} (h0 : 0 ≤ i) (h : xs.drop i.toNat = y :: ys) : rdOf d xs i = y ∧ i < xs.length ∧ xs.drop (i + 1).toNat = ys := by
  have h1 : i.toNat < xs.length := by
    by_cases e : i.toNat < xs.length
    · exact e
    · rw [List.drop_eq_nil_of_le (by omega)] at h; cases h
  rw [List.drop_eq_getElem_cons h1] at h
  injection h with ha hb
  refine ⟨?_, by omega, ?_⟩
  · unfold rdOf; rw [List.getD_eq_getElem?_getD, List.getElem?_eq_getElem h1]; exact ha
  · rw [show (i + 1).toNat = i.toNat + 1 by omega]; exact hb

/-! #### bytes -/
/-- A string's bytes as numbers. -/
def bs (s : ByteArray) : List Int := s.data.toList.map fun b => (b.toNat : Int)
theorem bs_length (s : ByteArray) : (bs s).length = s.size := by simp [bs]
theorem bt_bs (s : ByteArray) (i : Int) : bt s i = rd (bs s) i := by
  unfold bt rd bs
  rw [List.getD_eq_getElem?_getD, List.getElem?_map]
  by_cases h : i.toNat < s.size
  · rw [dif_pos h, List.getElem?_eq_getElem (by simpa using h)]; simp; rfl
  · rw [dif_neg h, List.getElem?_eq_none (by simpa using h)]; rfl
theorem bs_range (s : ByteArray) : ∀ b ∈ bs s, 0 ≤ b ∧ b ≤ 255 := by
  intro b hb
  simp only [bs, List.mem_map] at hb
  obtain ⟨c, _, rfl⟩ := hb
  have := c.toNat_lt
  omega
theorem bs_inj {s t : ByteArray} (h : bs s = bs t) : s = t := by
  have h1 : s.data.toList = t.data.toList := by
    refine List.map_inj_right (f := fun b : UInt8 => (b.toNat : Int)) ?_ |>.1 h
    intro x y hxy
    exact UInt8.toNat_inj.1 (by omega)
  cases s; cases t
  simp only [ByteArray.mk.injEq]
  exact Array.ext' h1
theorem toList_loop (s : ByteArray) (i : Nat) (r : List UInt8) : ByteArray.toList.loop s i r = r.reverse ++ s.data.toList.drop i := by
  unfold ByteArray.toList.loop
  split
  next h =>
    rw [toList_loop s (i + 1) (s.get! i :: r)]
    have h' : i < s.data.toList.length := by simpa using h
    rw [List.drop_eq_getElem_cons h']
    have : s.get! i = s.data.toList[i] := by
      show s.data[i]! = _
      rw [getElem!_pos s.data i (by simpa using h)]; simp
    rw [this]; simp
  next h =>
    rw [List.drop_eq_nil_of_le (by simpa using h)]; simp
  termination_by s.size - i
theorem toList_data (s : ByteArray) : s.toList = s.data.toList := by
  unfold ByteArray.toList; rw [toList_loop]; simp
theorem toList_nil (s : ByteArray) : s.toList = [] ↔ bs s = [] := by rw [toList_data]; simp [bs]
theorem bs_drop (s : ByteArray) (i j : Nat) (hj : s.size ≤ j) : bs (s.extract i j) = (bs s).drop i := by
  unfold bs
  rw [ByteArray.data_extract, ← List.map_drop]
  congr 1
  rw [Array.toList_extract]
  have : s.data.toList.length = s.size := by simp
  simp only [List.extract]
  rw [List.take_of_length_le (by rw [List.length_drop]; omega)]
theorem bs_take (s : ByteArray) (j : Nat) : bs (s.extract 0 j) = (bs s).take j := by
  unfold bs
  rw [ByteArray.data_extract, ← List.map_take]
  congr 1
  rw [Array.toList_extract]
  simp [List.extract]

/-! #### keys -/
def letters (l : List Int) : Bool := l.all fun b => decide (97 ≤ b ∧ b ≤ 122)
/-- KeyValid, over the bytes. -/
def keyOk (l : List Int) : Bool := decide (1 ≤ l.length ∧ l.length ≤ 4) && letters l
theorem rd_zero {l : List Int} {b : Int} {t : List Int} (h : l = b :: t) : rd l 0 = b := by subst h; rfl
theorem impl_lettersOnly_f : ∀ (l : List Int) (s : ByteArray), bs s = l → impl_lettersOnly.fL s = some (letters l)
  | [], s, h => by rw [impl_lettersOnly.fL_eq, if_pos ((toList_nil s).2 h)]; rfl
  | b :: l, s, h => by
    have hs : s.size = l.length + 1 := by rw [← bs_length, h]; rfl
    have hn : ¬ s.toList = [] := by rw [toList_nil, h]; simp
    have hd : bs (s.extract 1 s.size) = l := by rw [bs_drop s 1 s.size (Nat.le_refl _), h]; rfl
    rw [impl_lettersOnly.fL_eq, if_neg hn, if_pos (by omega), bt_bs, rd_zero h, if_pos (by omega : (1 : Int) ≤ (s.size : Int)), impl_lettersOnly_f l _ hd, Option.bind_some]
    unfold letters
    rw [List.all_cons]
    by_cases h1 : b ≥ 97
    · rw [if_pos h1]
      by_cases h2 : b ≤ 122
      · rw [if_pos h2, show decide (97 ≤ b ∧ b ≤ 122) = true from decide_eq_true ⟨h1, h2⟩]; rfl
      · rw [if_neg h2, show decide (97 ≤ b ∧ b ≤ 122) = false from decide_eq_false (by omega)]; rfl
    · rw [if_neg h1, show decide (97 ≤ b ∧ b ≤ 122) = false from decide_eq_false (by omega)]; rfl
theorem impl_KeyValid_f (s : ByteArray) : impl_KeyValid.fL s = some (keyOk (bs s)) := by
  rw [impl_KeyValid.fL_eq, impl_lettersOnly_f _ s rfl, Option.bind_some]
  unfold keyOk
  rw [bs_length]
  by_cases h1 : (s.size : Int) < 1
  · rw [if_pos h1, decide_eq_false (by omega)]; rfl
  · rw [if_neg h1]
    by_cases h2 : (s.size : Int) > 4
    · rw [if_pos h2, decide_eq_false (by omega)]; rfl
    · rw [if_neg h2, decide_eq_true (by omega)]; rfl
theorem keyOk_len {l : List Int} (h : keyOk l = true) : 1 ≤ l.length ∧ l.length ≤ 4 := by
  simp only [keyOk, Bool.and_eq_true, decide_eq_true_eq] at h; exact h.1
theorem keyOk_letters {l : List Int} (h : keyOk l = true) : letters l = true := by
  simp only [keyOk, Bool.and_eq_true, decide_eq_true_eq] at h; exact h.2
theorem letters_cons {b : Int} {l : List Int} (h : letters (b :: l) = true) : (97 ≤ b ∧ b ≤ 122) ∧ letters l = true := by
  simp only [letters, List.all_cons, Bool.and_eq_true, decide_eq_true_eq] at h
  exact ⟨h.1, by simp only [letters]; exact h.2⟩

/-! #### spec_l1In -/
theorem spec_l1In_f (a lo hi : Int) : spec_l1In.f a lo hi = some (decide (lo ≤ a ∧ a ≤ hi)) := by
  unfold spec_l1In.f
  by_cases h : a ≥ lo
  · rw [if_pos h]; congr 1; rw [decide_eq_decide]; omega
  · rw [if_neg h]; congr 1; rw [eq_comm, decide_eq_false_iff_not]; omega

/-! #### valueValid -/
theorem impl_valueValid_f (v : Int) : impl_valueValid.f v = some (decide (0 ≤ v ∧ v ≤ 999)) := by
  unfold impl_valueValid.f
  by_cases h : v ≥ 0
  · rw [if_pos h]; congr 1; rw [decide_eq_decide]; omega
  · rw [if_neg h]; congr 1; rw [eq_comm, decide_eq_false_iff_not]; omega

/-! #### FeedValid -/
theorem some_false {b : Bool} (h : b = true → False) : some false = some b := by
  cases b with
  | false => rfl
  | true => exact (h rfl).elim
theorem getD_at {α : Type} {xs : List α} {d : α} {i : Int} {y : α} {ys : List α} (h0 : 0 ≤ i) (h : xs.drop i.toNat = y :: ys) : xs.getD i.toNat d = y ∧ i < xs.length ∧ xs.drop (i + 1).toNat = ys := by
  have h1 : i.toNat < xs.length := by
    by_cases e : i.toNat < xs.length
    · exact e
    · rw [List.drop_eq_nil_of_le (by omega)] at h; cases h
  rw [List.drop_eq_getElem_cons h1] at h
  injection h with ha hb
  refine ⟨?_, by omega, ?_⟩
  · rw [List.getD_eq_getElem?_getD, List.getElem?_eq_getElem h1]; exact ha
  · rw [show (i + 1).toNat = i.toNat + 1 by omega]; exact hb
/-- A change alone is valid. -/
def feedItem (y : S110) : Bool := decide (0 ≤ y.f0 ∧ y.f0 ≤ 23 ∧ -1 ≤ y.f2 ∧ y.f2 ≤ 999 ∧ -1 ≤ y.f3 ∧ y.f3 ≤ 999 ∧ ¬ y.f2 = y.f3) && keyOk (bs y.f1)
/-- Changes are valid, and ascend from an index on. -/
def feedFrom : Int → List S110 → Bool
  | _, [] => true
  | p, y :: ys => feedItem y && decide (p < y.f0) && feedFrom y.f0 ys
def feedOk (l : List S110) : Bool := decide (l.length ≤ 24) && feedFrom (-1) l
theorem impl_FeedValid_l0 (xs : List S110) (hx : xs.length ≤ 24) : ∀ (ys : List S110) (i p : Int), 0 ≤ i → i ≤ xs.length → xs.drop i.toNat = ys → (i = 0 → p = -1) → (0 < i → p = (rd_T110 xs (i - 1)).f0) → impl_FeedValid.l0L xs xs (xs.length : Int) i = some (feedFrom p ys)
  | [], i, p, h0, h1, hd, hp0, hp1 => by
    have := drop_nil h0 h1 hd
    rw [impl_FeedValid.l0L_eq, if_neg (by omega)]; rfl
  | y :: ys, i, p, h0, h1, hd, hp0, hp1 => by
    obtain ⟨hr0, hl, hd'⟩ := getD_at (d := z110) h0 hd
    have hr : rd_T110 xs i = y := hr0
    have hnext : feedItem y = true → impl_FeedValid.l0L xs xs (xs.length : Int) (i + 1) = some (feedFrom y.f0 ys) := fun _ =>
      impl_FeedValid_l0 xs hx ys (i + 1) y.f0 (by omega) (by omega) hd' (fun h => by omega) (fun _ => by rw [show i + 1 - 1 = i by omega, hr])
    rw [impl_FeedValid.l0L_eq, if_pos hl, if_pos h0, if_pos hl, hr, impl_KeyValid_f, Option.bind_some]
    simp only [impl_FeedValid.j1L_eq, impl_FeedValid.j2L_eq, impl_valueValid_f, Option.bind_some, if_true, w64 (n := i - 1) (by omega) (by omega), w64 (n := i + 1) (by omega) (by omega)]
    by_cases c1 : y.f0 < 0
    · rw [if_pos c1]; exact some_false (fun e => by simp only [feedFrom, feedItem, Bool.and_eq_true, decide_eq_true_eq] at e; omega)
    · rw [if_neg c1]
      by_cases c2 : y.f0 ≥ 24
      · rw [if_pos c2]; exact some_false (fun e => by simp only [feedFrom, feedItem, Bool.and_eq_true, decide_eq_true_eq] at e; omega)
      · rw [if_neg c2]
        by_cases c3 : keyOk (bs y.f1) = true
        · rw [if_pos c3]
          by_cases c4 : y.f2 = y.f3
          · rw [if_pos (by simpa using c4)]; exact some_false (fun e => by simp only [feedFrom, feedItem, Bool.and_eq_true, decide_eq_true_eq] at e; omega)
          · rw [if_neg (by simpa using c4)]
            have last : ∀ b : Bool, (feedItem y = true ↔ b = false) → (if b = true then some false else if i > 0 then (if 0 ≤ i - 1 then (if i - 1 < (xs.length : Int) then (if (rd_T110 xs (i - 1)).f0 ≥ y.f0 then some false else impl_FeedValid.l0L xs xs (xs.length : Int) (i + 1)) else none) else none) else impl_FeedValid.l0L xs xs (xs.length : Int) (i + 1)) = some (feedFrom p (y :: ys)) := by
              intro b hb
              simp only [feedFrom]
              cases b with
              | true =>
                rw [if_pos rfl]
                have : feedItem y = false := by
                  cases hf : feedItem y with
                  | false => rfl
                  | true => have := hb.1 hf; cases this
                rw [this]; rfl
              | false =>
                have hi := hb.2 rfl
                rw [if_neg (by simp), hi]
                by_cases c5 : i > 0
                · rw [if_pos c5, if_pos (by omega), if_pos (by omega), ← hp1 c5]
                  by_cases c6 : p ≥ y.f0
                  · rw [if_pos c6, decide_eq_false (by omega)]; rfl
                  · rw [if_neg c6, decide_eq_true (by omega), hnext hi]; rfl
                · have := hp0 (by omega)
                  rw [if_neg c5, decide_eq_true (by omega), hnext hi]; rfl
            have hitem : feedItem y = true ↔ (-1 ≤ y.f2 ∧ y.f2 ≤ 999 ∧ -1 ≤ y.f3 ∧ y.f3 ≤ 999) := by
              simp only [feedItem, Bool.and_eq_true, decide_eq_true_eq]
              constructor
              · rintro ⟨h, _⟩; omega
              · intro h; exact ⟨by omega, c3⟩
            by_cases d1 : y.f2 = -1
            · rw [if_pos d1]
              by_cases d2 : y.f3 = -1
              · omega
              · rw [if_neg d2]
                exact last _ (by rw [hitem]; simp; omega)
            · rw [if_neg d1]
              by_cases d3 : 0 ≤ y.f2 ∧ y.f2 ≤ 999
              · rw [if_pos (by simpa using d3)]
                by_cases d2 : y.f3 = -1
                · rw [if_pos d2]
                  exact last false (by rw [hitem]; simp; omega)
                · rw [if_neg d2]
                  exact last _ (by rw [hitem]; simp; omega)
              · rw [if_neg (by simpa using d3)]
                exact some_false (fun e => by simp only [feedFrom, feedItem, Bool.and_eq_true, decide_eq_true_eq] at e; omega)
        · rw [if_neg c3]; exact some_false (fun e => by simp only [feedFrom, feedItem, Bool.and_eq_true, decide_eq_true_eq] at e; exact c3 e.1.1.2)
theorem impl_FeedValid_f (xs : List S110) : impl_FeedValid.fL xs = some (feedOk xs) := by
  rw [impl_FeedValid.fL_eq]
  unfold feedOk
  by_cases h : (xs.length : Int) > 24
  · rw [if_pos h, decide_eq_false (by omega)]; rfl
  · rw [if_neg h, decide_eq_true (by omega), impl_FeedValid_l0 xs (by omega) xs 0 (-1) (by omega) (by omega) (by simp) (fun _ => rfl) (fun h => by omega)]; rfl

/-! #### feedlen -/
theorem eta_change (y : S110) : (⟨y.f0, y.f1, y.f2, y.f3⟩ : S110) = y := rfl
theorem feedOk_len {l : List S110} (h : feedOk l = true) : l.length ≤ 24 := by
  simp only [feedOk, Bool.and_eq_true, decide_eq_true_eq] at h; exact h.1

/-! #### UndoFeed -/
def undo (n : Int) (c : S110) : S110 := ⟨n - 1 - c.f0, c.f1, c.f3, c.f2⟩
def lastIdx (l : List S110) : Int := (rd_T110 l ((l.length : Int) - 1)).f0
def undoFeed (l : List S110) (n : Int) : List S110 := if feedOk l = true ∧ 0 < l.length ∧ lastIdx l < n ∧ n ≤ 24 then (l.reverse.map (undo n)) else []
theorem undoFeed_length (l : List S110) (n : Int) : (undoFeed l n).length ≤ 24 := by
  unfold undoFeed
  split
  · rename_i h
    have := feedOk_len h.1
    simp; omega
  · simp
theorem feedFrom_mem : ∀ (l : List S110) (p : Int), feedFrom p l = true → ∀ c ∈ l, feedItem c = true ∧ p < c.f0
  | [], _, _, c, hc => by cases hc
  | y :: ys, p, h, c, hc => by
    simp only [feedFrom, Bool.and_eq_true, decide_eq_true_eq] at h
    rcases List.mem_cons.1 hc with rfl | hc
    · exact ⟨h.1.1, h.1.2⟩
    · have := feedFrom_mem ys y.f0 h.2 c hc
      exact ⟨this.1, by omega⟩
theorem feedOk_item {l : List S110} (h : feedOk l = true) (c : S110) (hc : c ∈ l) : 0 ≤ c.f0 ∧ c.f0 ≤ 23 := by
  simp only [feedOk, Bool.and_eq_true, decide_eq_true_eq] at h
  have := (feedFrom_mem l _ h.2 c hc).1
  simp only [feedItem, Bool.and_eq_true, decide_eq_true_eq] at this
  omega
theorem rd_change_mem {l : List S110} {i : Int} (h0 : 0 ≤ i) (h1 : i < l.length) : rd_T110 l i ∈ l := by
  unfold rd_T110
  rw [List.getD_eq_getElem?_getD, List.getElem?_eq_getElem (show i.toNat < l.length by omega)]
  exact List.getElem_mem _
theorem take_rev {l : List S110} {i : Int} (h0 : 0 ≤ i) (h1 : i < l.length) : (l.take (i.toNat + 1)).reverse = rd_T110 l i :: (l.take i.toNat).reverse := by
  unfold rd_T110
  rw [List.take_succ_eq_append_getElem (show i.toNat < l.length by omega), List.getD_eq_getElem?_getD, List.getElem?_eq_getElem (show i.toNat < l.length by omega)]
  simp
theorem impl_UndoFeed_l0 (xs : List S110) (n : Int) (hx : xs.length ≤ 24) (hok : feedOk xs = true) (hn : 0 ≤ n) (hn2 : n ≤ 24) : ∀ (m : Nat) (i : Int) (out : List S110), i + 1 = m → m ≤ xs.length → (out.length : Int) + m ≤ 24 → impl_UndoFeed.l0L xs n out i = some (out ++ (xs.take m).reverse.map (undo n))
  | 0, i, out, h, h1, ho => by rw [impl_UndoFeed.l0L_eq, if_neg (by omega)]; simp
  | m + 1, i, out, h, h1, ho => by
    have hi := feedOk_item hok _ (rd_change_mem (l := xs) (i := i) (by omega) (by omega))
    have ht := take_rev (l := xs) (i := i) (by omega) (by omega)
    rw [show i.toNat = m by omega] at ht
    rw [impl_UndoFeed.l0L_eq, if_pos (by omega), if_pos (by omega), if_pos (by omega), if_pos (by omega), w64 (n := n - 1) (by omega) (by omega), w64 (n := n - 1 - _) (by omega) (by omega), w64 (n := i - 1) (by omega) (by omega),
      impl_UndoFeed_l0 xs n hx hok hn hn2 m (i - 1) _ (by omega) (by omega) (by simp; omega), ht]
    simp [undo]
theorem impl_UndoFeed_f (xs : List S110) (n : Int) (hx : xs.length ≤ 1000000000000) (hn : -9223372036854775808 ≤ n) : impl_UndoFeed.fL xs n = some (undoFeed xs n) := by
  have jt : impl_UndoFeed.j0L xs n ((xs.length : Int) - 1) true = some [] := by rw [impl_UndoFeed.j0L_eq, if_pos rfl]
  rw [impl_UndoFeed.fL_eq, impl_FeedValid_f, Option.bind_some, w64 (by omega) (by omega), jt]
  unfold undoFeed
  by_cases h : feedOk xs = true
  · rw [if_pos h]
    by_cases h1 : (xs.length : Int) - 1 < 0
    · rw [if_pos h1, if_neg (by omega)]
    · have hi := feedOk_item h _ (rd_change_mem (l := xs) (i := (xs.length : Int) - 1) (by omega) (by omega))
      rw [if_neg h1, if_pos (by omega), if_pos (by omega)]
      by_cases h2 : n ≤ (rd_T110 xs ((xs.length : Int) - 1)).f0
      · rw [if_pos h2, if_neg (by unfold lastIdx; omega)]
      · rw [if_neg h2]
        by_cases h3 : n > 24
        · rw [decide_eq_true h3, jt, if_neg (by omega)]
        · have hlen := feedOk_len h
          rw [decide_eq_false h3, impl_UndoFeed.j0L_eq, if_neg (by simp), impl_UndoFeed_l0 xs n hlen h (by omega) (by omega) xs.length _ [] (by omega) (by omega) (by simp; omega), if_pos ⟨h, by omega, by unfold lastIdx; omega, by omega⟩]
          simp
  · rw [if_neg h, if_neg (fun e => h e.1)]

/-! #### spec_KeyValid -/
theorem spec_KeyValid_l0 (s : ByteArray) (hs : s.size ≤ 1000) : ∀ (ys : List Int) (i : Int), 0 ≤ i → i ≤ s.size → (bs s).drop i.toNat = ys → spec_KeyValid.l0L s i = some (letters ys)
  | [], i, h0, h1, hd => by
    have := drop_nil h0 (by rw [bs_length]; exact h1) hd
    rw [bs_length] at this
    rw [spec_KeyValid.l0L_eq, if_neg (by omega)]; rfl
  | y :: ys, i, h0, h1, hd => by
    obtain ⟨hr, hl, hd'⟩ := rd_drop h0 hd
    rw [bs_length] at hl
    rw [spec_KeyValid.l0L_eq, if_pos hl, if_pos h0, bt_bs, hr, w64 (by omega) (by omega)]
    unfold letters
    rw [List.all_cons]
    by_cases e1 : y < 97
    · rw [if_pos e1, decide_eq_false (by omega)]; rfl
    · rw [if_neg e1]
      by_cases e2 : y > 122
      · rw [if_pos e2, decide_eq_false (by omega)]; rfl
      · rw [if_neg e2, decide_eq_true (by omega), spec_KeyValid_l0 s hs ys (i + 1) (by omega) (by omega) hd']; rfl
theorem spec_KeyValid_f (s : ByteArray) : spec_KeyValid.fL s = some (keyOk (bs s)) := by
  rw [spec_KeyValid.fL_eq, spec_l1In_f, Option.bind_some]
  unfold keyOk
  rw [bs_length]
  by_cases h : 1 ≤ (s.size : Int) ∧ (s.size : Int) ≤ 4
  · rw [if_pos (by simpa using h), decide_eq_true (by omega), spec_KeyValid_l0 s (by omega) (bs s) 0 (by omega) (by omega) (by simp)]; rfl
  · rw [if_neg (by simpa using h), decide_eq_false (by omega)]; rfl

/-! #### spec_FeedValid -/
theorem spec_FeedValid_l0 (xs : List S110) (hx : xs.length ≤ 1000000000000) : ∀ (ys : List S110) (i p : Int), 0 ≤ i → i ≤ 24 → i ≤ xs.length → xs.drop i.toNat = ys → (i = 0 → p = -1) → (0 < i → p = (rd_T110 xs (i - 1)).f0) → spec_FeedValid.l0L xs i = some (decide (xs.length ≤ 24) && feedFrom p ys)
  | [], i, p, h0, h24, h1, hd, hp0, hp1 => by
    have := drop_nil h0 h1 hd
    rw [spec_FeedValid.l0L_eq, if_neg (by omega), decide_eq_true (by omega)]; rfl
  | y :: ys, i, p, h0, h24, h1, hd, hp0, hp1 => by
    obtain ⟨hr0, hl, hd'⟩ := getD_at (d := z110) h0 hd
    have hr : rd_T110 xs i = y := hr0
    rw [spec_FeedValid.l0L_eq, if_pos hl, if_pos h0]
    by_cases c0 : i ≥ 24
    · rw [if_pos c0, decide_eq_false (by omega)]; rfl
    · have hnext : spec_FeedValid.l0L xs (i + 1) = some (decide (xs.length ≤ 24) && feedFrom y.f0 ys) :=
        spec_FeedValid_l0 xs hx ys (i + 1) y.f0 (by omega) (by omega) (by omega) hd' (fun h => by omega) (fun _ => by rw [show i + 1 - 1 = i by omega, hr])
      rw [if_neg c0, hr, w64 (n := i + 1) (by omega) (by omega), w64 (n := i - 1) (by omega) (by omega)]
      simp only [spec_l1In_f, spec_KeyValid_f, Option.bind_some, decide_eq_true_eq]
      have no : ∀ Q : Prop, ¬ Q → (feedFrom p (y :: ys) = true → Q) → some false = some (decide (xs.length ≤ 24) && feedFrom p (y :: ys)) := fun Q hq h => some_false (fun e => by
        simp only [Bool.and_eq_true] at e
        exact hq (h e.2))
      by_cases c1 : 0 ≤ y.f0 ∧ y.f0 ≤ 23
      · rw [if_pos c1]
        by_cases c2 : keyOk (bs y.f1) = true
        · rw [if_pos c2]
          by_cases c3 : -1 ≤ y.f2 ∧ y.f2 ≤ 999
          · rw [if_pos c3]
            by_cases c4 : -1 ≤ y.f3 ∧ y.f3 ≤ 999
            · rw [if_pos c4]
              by_cases c5 : y.f2 = y.f3
              · rw [if_pos c5]; exact no (¬ y.f2 = y.f3) (fun h => h c5) (fun e => by simp only [feedFrom, feedItem, Bool.and_eq_true, decide_eq_true_eq] at e; omega)
              · have hitem : feedItem y = true := by
                  simp only [feedItem, Bool.and_eq_true, decide_eq_true_eq]
                  exact ⟨by omega, c2⟩
                rw [if_neg c5]
                simp only [feedFrom]
                rw [hitem]
                by_cases c6 : i > 0
                · rw [if_pos c6, if_pos (by omega), if_pos (by omega), ← hp1 c6]
                  by_cases c7 : y.f0 ≤ p
                  · rw [if_pos c7, decide_eq_false (p := p < y.f0) (by omega)]; simp
                  · rw [if_neg c7, decide_eq_true (p := p < y.f0) (by omega), hnext]; rfl
                · have := hp0 (by omega)
                  rw [if_neg c6, decide_eq_true (p := p < y.f0) (by omega), hnext]; rfl
            · rw [if_neg c4]; exact no _ c4 (fun e => by simp only [feedFrom, feedItem, Bool.and_eq_true, decide_eq_true_eq] at e; omega)
          · rw [if_neg c3]; exact no _ c3 (fun e => by simp only [feedFrom, feedItem, Bool.and_eq_true, decide_eq_true_eq] at e; omega)
        · rw [if_neg c2]; exact no _ c2 (fun e => by simp only [feedFrom, feedItem, Bool.and_eq_true, decide_eq_true_eq] at e; exact e.1.1.2)
      · rw [if_neg c1]; exact no _ c1 (fun e => by simp only [feedFrom, feedItem, Bool.and_eq_true, decide_eq_true_eq] at e; omega)
theorem spec_FeedValid_f (xs : List S110) (hx : xs.length ≤ 1000000000000) : spec_FeedValid.fL xs = some (feedOk xs) := by
  rw [spec_FeedValid.fL_eq, spec_FeedValid_l0 xs hx xs 0 (-1) (by omega) (by omega) (by omega) (by simp) (fun _ => rfl) (fun h => by omega)]; rfl

/-! #### spec_UndoFeed -/
theorem spec_UndoFeed_l0 (xs : List S110) (n : Int) (hx : xs.length ≤ 24) (hok : feedOk xs = true) (hn : 0 ≤ n) (hn2 : n ≤ 24) : ∀ (m : Nat) (i : Int) (out : List S110), i + 1 = m → m ≤ xs.length → (out.length : Int) + m ≤ 24 → spec_UndoFeed.l0L xs n out i = some (out ++ (xs.take m).reverse.map (undo n))
  | 0, i, out, h, h1, ho => by rw [spec_UndoFeed.l0L_eq, if_neg (by omega)]; simp
  | m + 1, i, out, h, h1, ho => by
    have hi := feedOk_item hok _ (rd_change_mem (l := xs) (i := i) (by omega) (by omega))
    have ht := take_rev (l := xs) (i := i) (by omega) (by omega)
    rw [show i.toNat = m by omega] at ht
    rw [spec_UndoFeed.l0L_eq, if_pos (by omega), if_pos (by omega), if_pos (by omega), if_pos (by omega), w64 (n := n - 1) (by omega) (by omega), w64 (n := n - 1 - _) (by omega) (by omega), w64 (n := i - 1) (by omega) (by omega),
      spec_UndoFeed_l0 xs n hx hok hn hn2 m (i - 1) _ (by omega) (by omega) (by simp; omega), ht]
    simp [undo]
theorem spec_UndoFeed_f (xs : List S110) (n : Int) (hx : xs.length ≤ 1000000000000) : spec_UndoFeed.fL xs n = some (undoFeed xs n) := by
  have jt : spec_UndoFeed.j0L xs n [] true = some [] := by rw [spec_UndoFeed.j0L_eq, if_pos rfl]
  rw [spec_UndoFeed.fL_eq, Option.bind_some, spec_FeedValid_f xs hx, Option.bind_some, spec_l1In_f, Option.bind_some, w64 (by omega) (by omega), jt]
  unfold undoFeed
  by_cases h : feedOk xs = true
  · have hlen := feedOk_len h
    rw [if_pos h]
    by_cases h0 : 0 ≤ n ∧ n ≤ 24
    · rw [if_pos (by simpa using h0)]
      by_cases h1 : (xs.length : Int) > 0
      · rw [if_pos h1, if_pos (by omega), if_pos (by omega)]
        by_cases h2 : (rd_T110 xs ((xs.length : Int) - 1)).f0 ≥ n
        · rw [decide_eq_true h2, jt, if_neg (by unfold lastIdx; omega)]
        · rw [decide_eq_false h2, spec_UndoFeed.j0L_eq, if_neg (by simp), w64 (by omega) (by omega), spec_UndoFeed_l0 xs n hlen h h0.1 h0.2 xs.length _ [] (by omega) (by omega) (by simp; omega), if_pos ⟨h, by omega, by unfold lastIdx; omega, by omega⟩]
          simp
      · rw [if_neg h1, spec_UndoFeed.j0L_eq, if_neg (by simp), w64 (by omega) (by omega), spec_UndoFeed_l0 xs n hlen h h0.1 h0.2 0 _ [] (by omega) (by omega) (by simp), if_neg (by omega)]
        simp
    · rw [if_neg (by simpa using h0)]
      have : ¬ (feedOk xs = true ∧ 0 < xs.length ∧ lastIdx xs < n ∧ n ≤ 24) := by
        rintro ⟨_, h1, h2, h3⟩
        have hi := feedOk_item h _ (rd_change_mem (l := xs) (i := (xs.length : Int) - 1) (by omega) (by omega))
        unfold lastIdx at h2
        omega
      rw [if_neg this]
  · rw [if_neg h, if_neg (fun e => h e.1)]

/-! #### intS -/
theorem set_at {α : Type} {xs : List α} {i : Nat} {y z : α} {ys : List α} (h : xs.drop i = y :: ys) : (xs.set i z).take (i + 1) = xs.take i ++ [z] ∧ (xs.set i z).drop (i + 1) = ys ∧ (xs.set i z).length = xs.length := by
  have h1 : i < xs.length := by
    by_cases e : i < xs.length
    · exact e
    · rw [List.drop_eq_nil_of_le (by omega)] at h; cases h
  rw [List.drop_eq_getElem_cons h1] at h
  injection h with ha hb
  refine ⟨?_, ?_, by simp⟩
  · rw [List.take_succ_eq_append_getElem (by simpa using h1), List.take_set_of_le (by omega)]; simp
  · rw [List.drop_set_of_lt (by omega)]; exact hb
theorem drop_take_cons {α : Type} {xs pre : List α} {i : Nat} {y : α} {ys : List α} (h : xs.drop i = y :: ys) : xs.take (i + 1) = xs.take i ++ [y] ∧ i < xs.length ∧ xs.drop (i + 1) = ys := by
  have h1 : i < xs.length := by
    by_cases e : i < xs.length
    · exact e
    · rw [List.drop_eq_nil_of_le (by omega)] at h; cases h
  rw [List.drop_eq_getElem_cons h1] at h
  injection h with ha hb
  exact ⟨by rw [List.take_succ_eq_append_getElem h1, ha], h1, hb⟩

/-! #### loops -/
theorem getD_drop {α : Type} {xs : List α} {d : α} {i : Int} {y : α} {ys : List α} (h0 : 0 ≤ i) (h : xs.drop i.toNat = y :: ys) : xs.getD i.toNat d = y ∧ i < xs.length ∧ xs.drop (i + 1).toNat = ys := by
  have h1 : i.toNat < xs.length := by
    by_cases e : i.toNat < xs.length
    · exact e
    · rw [List.drop_eq_nil_of_le (by omega)] at h; cases h
  rw [List.drop_eq_getElem_cons h1] at h
  injection h with ha hb
  refine ⟨?_, by omega, ?_⟩
  · rw [List.getD_eq_getElem?_getD, List.getElem?_eq_getElem h1]; exact ha
  · rw [show (i + 1).toNat = i.toNat + 1 by omega]; exact hb
/-- A copy, element by element, into a list of the same length. -/
theorem copy_loop {α : Type} (ys : List α) (d : α) (n : Nat) (hn : n = ys.length) (L : List α → Int → Option (List α))
    (hL : ∀ (zs : List α) (i : Int), 0 ≤ i → i ≤ n → zs.length = n → L zs i = if i < (n : Int) then L (zs.set i.toNat (ys.getD i.toNat d)) (i + 1) else some zs) :
    ∀ (ws zs : List α) (i : Int), 0 ≤ i → i ≤ n → ys.drop i.toNat = ws → zs.length = n → zs.take i.toNat = ys.take i.toNat → L zs i = some ys
  | [], zs, i, h0, h1, hd, hl, ht => by
    have := drop_nil h0 (by omega) hd
    rw [hL zs i h0 h1 hl, if_neg (by omega)]
    rw [List.take_of_length_le (by omega), List.take_of_length_le (by omega)] at ht
    rw [ht]
  | w :: ws, zs, i, h0, h1, hd, hl, ht => by
    obtain ⟨hr, hlt, hd'⟩ := getD_drop (d := d) h0 hd
    obtain ⟨t1, _, _⟩ := drop_take_cons (pre := ys) hd
    have hz : zs.drop i.toNat = zs[i.toNat]'(by omega) :: zs.drop (i.toNat + 1) := List.drop_eq_getElem_cons (by omega)
    obtain ⟨s1, s2, s3⟩ := set_at (z := w) hz
    rw [hL zs i h0 h1 hl, if_pos (by omega), hr]
    exact copy_loop ys d n hn L hL ws _ (i + 1) (by omega) (by omega) hd' (by omega) (by rw [show (i + 1).toNat = i.toNat + 1 by omega, s1, t1, ht])
/-- A comparison, element by element, of lists of the same length. -/
theorem eq_loop {α : Type} [DecidableEq α] (xs zs : List α) (d : α) (hl : xs.length = zs.length) (L : Int → Option Bool)
    (hL : ∀ i : Int, 0 ≤ i → i ≤ xs.length → L i = if i < (xs.length : Int) then (if xs.getD i.toNat d = zs.getD i.toNat d then L (i + 1) else some false) else some true) :
    ∀ (ys ws : List α) (i : Int), 0 ≤ i → i ≤ xs.length → xs.drop i.toNat = ys → zs.drop i.toNat = ws → L i = some (decide (ys = ws))
  | [], ws, i, h0, h1, hd, hw => by
    have := drop_nil h0 h1 hd
    rw [hL i h0 h1, if_neg (by omega)]
    rw [List.drop_eq_nil_of_le (by omega)] at hw
    rw [← hw]; rfl
  | y :: ys, [], i, h0, h1, hd, hw => by
    have := drop_nil h0 (by omega) hw
    obtain ⟨hr, hlt, hd'⟩ := getD_drop (d := d) h0 hd
    omega
  | y :: ys, w :: ws, i, h0, h1, hd, hw => by
    obtain ⟨hr, hlt, hd'⟩ := getD_drop (d := d) h0 hd
    obtain ⟨hr2, hlt2, hw'⟩ := getD_drop (d := d) h0 hw
    rw [hL i h0 h1, if_pos hlt, hr, hr2]
    by_cases e : y = w
    · rw [if_pos e, eq_loop xs zs d hl L hL ys ws (i + 1) (by omega) (by omega) hd' hw']
      simp [e]
    · rw [if_neg e]; simp [e]
theorem eq_loop0 {α : Type} [DecidableEq α] (xs zs : List α) (d : α) (hl : xs.length = zs.length) (L : Int → Option Bool)
    (hL : ∀ i : Int, 0 ≤ i → i ≤ xs.length → L i = if i < (xs.length : Int) then (if xs.getD i.toNat d = zs.getD i.toNat d then L (i + 1) else some false) else some true) : L 0 = some (decide (xs = zs)) :=
  eq_loop xs zs d hl L hL xs zs 0 (by omega) (by omega) (by simp) (by simp)
theorem copy_loop0 {α : Type} (ys zs : List α) (d : α) (n : Nat) (hn : n = ys.length) (hz : zs.length = n) (L : List α → Int → Option (List α))
    (hL : ∀ (zs : List α) (i : Int), 0 ≤ i → i ≤ n → zs.length = n → L zs i = if i < (n : Int) then L (zs.set i.toNat (ys.getD i.toNat d)) (i + 1) else some zs) : L zs 0 = some ys :=
  copy_loop ys d n hn L hL ys zs 0 (by omega) (by omega) (by simp) hz (by simp)
/-- Marks: an element for each number, c numbers an element. -/
def marks {α : Type} (el : Int → α) (c : Int) : Nat → Int → List α
  | 0, _ => []
  | n + 1, k => el k :: marks el c n (k + c)
theorem marks_length {α : Type} (el : Int → α) (c : Int) : ∀ (n : Nat) (k : Int), (marks el c n k).length = n
  | 0, _ => rfl
  | n + 1, k => by simp [marks, marks_length el c n]
theorem mark_loop {α : Type} (el : Int → α) (c : Int) (hc : 0 ≤ c) (hc2 : c ≤ 1000) (n : Nat) (hn : n ≤ 1000000000) (L : List α → Int → Int → Option (Int × List α))
    (hL : ∀ (zs : List α) (k i : Int), 0 ≤ i → i ≤ n → zs.length = n → 0 ≤ k → k ≤ 100000000000 + 1000 * n → L zs k i = if i < (n : Int) then L (zs.set i.toNat (el k)) (k + c) (i + 1) else some (k, zs)) :
    ∀ (ys zs : List α) (k i : Int), 0 ≤ i → i ≤ n → zs.length = n → zs.drop i.toNat = ys → 0 ≤ k → k ≤ 100000000000 + 1000 * i → L zs k i = some (k + c * ys.length, zs.take i.toNat ++ marks el c ys.length k)
  | [], zs, k, i, h0, h1, hl, hd, hk, hk2 => by
    have := drop_nil h0 (by omega) hd
    rw [hL zs k i h0 h1 hl hk (by omega), if_neg (by omega), List.take_of_length_le (by omega)]; simp [marks]
  | y :: ys, zs, k, i, h0, h1, hl, hd, hk, hk2 => by
    obtain ⟨hr, hlt, hd'⟩ := getD_drop (d := y) h0 hd
    obtain ⟨s1, s2, s3⟩ := set_at (z := el k) hd
    rw [hL zs k i h0 h1 hl hk (by omega), if_pos (by omega),
      mark_loop el c hc hc2 n hn L hL ys _ (k + c) (i + 1) (by omega) (by omega) (by omega) (by rw [show (i + 1).toNat = i.toNat + 1 by omega]; exact s2) (by omega) (by omega),
      show (i + 1).toNat = i.toNat + 1 by omega, s1]
    simp only [List.length_cons, marks, List.append_assoc, List.singleton_append]
    congr 2
    rw [show ((ys.length + 1 : Nat) : Int) = (ys.length : Int) + 1 by omega, Int.mul_add]
    omega
theorem mark_loop0 {α : Type} (el : Int → α) (c : Int) (hc : 0 ≤ c) (hc2 : c ≤ 1000) (zs : List α) (hn : zs.length ≤ 1000000000) (k : Int) (hk : 0 ≤ k) (hk2 : k ≤ 100000000000) (L : List α → Int → Int → Option (Int × List α))
    (hL : ∀ (ws : List α) (k i : Int), 0 ≤ i → i ≤ zs.length → ws.length = zs.length → 0 ≤ k → k ≤ 100000000000 + 1000 * zs.length → L ws k i = if i < (zs.length : Int) then L (ws.set i.toNat (el k)) (k + c) (i + 1) else some (k, ws)) :
    L zs k 0 = some (k + c * zs.length, marks el c zs.length k) := by
  have := mark_loop el c hc hc2 zs.length hn L hL zs zs k 0 (by omega) (by omega) rfl (by simp) hk (by omega)
  simpa using this
theorem held_loop {α : Type} (el : Int → α) (d : α) (c : Int) (hc : 0 ≤ c) (hc2 : c ≤ 1000) (zs : List α) (hn : zs.length ≤ 1000000000) (L : Int → Int → Option Int)
    (hL : ∀ k i : Int, 0 ≤ i → i ≤ zs.length → 0 ≤ k → k ≤ 100000000000 + 1000 * zs.length → (i < zs.length → zs.getD i.toNat d = el k) → L k i = if i < (zs.length : Int) then L (k + c) (i + 1) else some k) :
    ∀ (n : Nat) (k i : Int), 0 ≤ i → i ≤ zs.length → zs.drop i.toNat = marks el c n k → 0 ≤ k → k ≤ 100000000000 + 1000 * i → L k i = some (k + c * n)
  | 0, k, i, h0, h1, hd, hk, hk2 => by
    have := drop_nil h0 h1 hd
    rw [hL k i h0 h1 hk (by omega) (fun h => by omega), if_neg (by omega)]; simp
  | n + 1, k, i, h0, h1, hd, hk, hk2 => by
    obtain ⟨hr, hlt, hd'⟩ := getD_drop (d := d) h0 hd
    rw [hL k i h0 h1 hk (by omega) (fun _ => hr), if_pos hlt, held_loop el d c hc hc2 zs hn L hL n (k + c) (i + 1) (by omega) (by omega) hd' (by omega) (by omega)]
    congr 1
    rw [show ((n + 1 : Nat) : Int) = (n : Int) + 1 by omega, Int.mul_add]
    omega
theorem held_loop0 {α : Type} (el : Int → α) (d : α) (c : Int) (hc : 0 ≤ c) (hc2 : c ≤ 1000) (n : Nat) (hn : n ≤ 1000000000) (k : Int) (hk : 0 ≤ k) (hk2 : k ≤ 100000000000) (L : Int → Int → Option Int)
    (hL : ∀ k' i : Int, 0 ≤ i → i ≤ n → 0 ≤ k' → k' ≤ 100000000000 + 1000 * n → (i < n → (marks el c n k).getD i.toNat d = el k') → L k' i = if i < (n : Int) then L (k' + c) (i + 1) else some k') :
    L k 0 = some (k + c * n) := by
  have hm := marks_length el c n k
  refine held_loop el d c hc hc2 (marks el c n k) (by omega) L (fun k' i => ?_) n k 0 (by omega) (by omega) (by simp) hk (by omega)
  rw [hm]
  exact hL k' i

/-! #### refl_loop -/
theorem refl_loop (n : Nat) (L : Int → Option Bool) (hL : ∀ i : Int, 0 ≤ i → i ≤ n → L i = if i < (n : Int) then L (i + 1) else some true) : ∀ (m : Nat) (i : Int), i + m = n → 0 ≤ i → L i = some true
  | 0, i, h, h0 => by rw [hL i h0 (by omega), if_neg (by omega)]
  | m + 1, i, h, h0 => by rw [hL i h0 (by omega), if_pos (by omega)]; exact refl_loop n L hL m (i + 1) (by omega) (by omega)
theorem refl_loop0 (n : Nat) (L : Int → Option Bool) (hL : ∀ i : Int, 0 ≤ i → i ≤ n → L i = if i < (n : Int) then L (i + 1) else some true) : L 0 = some true := refl_loop n L hL n 0 (by omega) (by omega)

/-! #### changeS -/
/-- A change of the law's own, as the program's. -/
def cvChange (x : S108) : S110 := ⟨x.f0, x.f1, x.f2, x.f3⟩
theorem getD_map' {α β : Type} (f : α → β) (xs : List α) (i : Nat) (d : α) (e : β) (h : i < xs.length) : (xs.map f).getD i e = f (xs.getD i d) := by
  simp [List.getD_eq_getElem?_getD, List.getElem?_eq_getElem h]
theorem toChangeS_f (xs : List S108) (hx : xs.length ≤ 1048576) : laws_toChangeS.fL xs = some (xs.map cvChange) := by
  rw [laws_toChangeS.fL_eq, if_pos (by omega), if_pos (by omega)]
  refine copy_loop0 (xs.map cvChange) _ z110 xs.length (by simp) (by simp) (fun zs i => laws_toChangeS.l0L xs zs i) (fun zs i h0 h1 hl => ?_)
  rw [laws_toChangeS.l0L_eq]
  unfold laws_toChange.f
  by_cases h : i < (xs.length : Int)
  · rw [if_pos h, if_pos h0, Option.bind_some, if_pos (by omega), w64 (by omega) (by omega), if_pos h, getD_map' cvChange xs i.toNat z108 _ (by omega)]; rfl
  · rw [if_neg h, if_neg h]
theorem eqChange_refl (a : Int) (b : ByteArray) (c d : Int) : laws_eqChange.f a b c d a b c d = some true := by unfold laws_eqChange.f; simp
theorem eqChangeS_refl (xs : List S110) (hx : xs.length ≤ 1000000000000) : laws_eqChangeS.fL xs xs = some true := by
  rw [laws_eqChangeS.fL_eq, if_pos rfl]
  refine refl_loop0 xs.length (fun i => laws_eqChangeS.l0L xs xs i) (fun i h0 h1 => ?_)
  rw [laws_eqChangeS.l0L_eq]
  by_cases h : i < (xs.length : Int)
  · rw [if_pos h, if_pos h0, if_pos h, eqChange_refl, Option.bind_some, if_pos rfl, w64 (by omega) (by omega), if_pos h]
  · rw [if_neg h, if_neg h]
theorem szChange_f (a : Int) (s : ByteArray) (b c k : Int) (hs : s.size ≤ 9223372036854775807) (h0 : 0 ≤ k) (h1 : k ≤ 1048576) : ∃ r, laws_szChange.f a s b c k = some r ∧ -1 ≤ r ∧ r ≤ k := by
  unfold laws_szChange.f
  rw [w64 (by omega) (by omega)]
  by_cases h : k - (s.size : Int) < 0
  · rw [if_pos h]; exact ⟨_, rfl, by omega, by omega⟩
  · rw [if_neg h]; exact ⟨_, rfl, by omega, by omega⟩
theorem szChangeS_l0 (xs : List S108) (hx : xs.length ≤ 1048576) (hB : ∀ x ∈ xs, x.f1.size ≤ 9223372036854775807) : ∀ (n : Nat) (i k : Int), i + n = xs.length → 0 ≤ i → 0 ≤ k → k ≤ 1048576 → ∃ r, laws_szChangeS.l0L xs k i = some r ∧ r ≤ k
  | 0, i, k, hi, h0, h1, h2 => by rw [laws_szChangeS.l0L_eq, if_neg (by omega)]; exact ⟨_, rfl, by omega⟩
  | n + 1, i, k, hi, h0, h1, h2 => by
    have hm : rd_T108 xs i ∈ xs := by
      unfold rd_T108
      rw [List.getD_eq_getElem?_getD, List.getElem?_eq_getElem (show i.toNat < xs.length by omega)]
      exact List.getElem_mem _
    obtain ⟨r, hr, r0, r1⟩ := szChange_f (rd_T108 xs i).f0 (rd_T108 xs i).f1 (rd_T108 xs i).f2 (rd_T108 xs i).f3 k (hB _ hm) h1 h2
    rw [laws_szChangeS.l0L_eq, if_pos (by omega), if_pos h0, hr, Option.bind_some, w64 (by omega) (by omega)]
    by_cases h : r < 0
    · rw [if_pos h]; exact ⟨_, rfl, by omega⟩
    · rw [if_neg h]
      obtain ⟨q, hq, hq2⟩ := szChangeS_l0 xs hx hB n (i + 1) r (by omega) (by omega) (by omega) (by omega)
      exact ⟨q, hq, by omega⟩
/-- The size is told; if there is room, the list is short. -/
theorem szChangeS_f (xs : List S108) (k : Int) (h0 : 0 ≤ k) (h1 : k ≤ 1048576) (hl : xs.length ≤ 9223372036854775807) (hB : ∀ x ∈ xs, x.f1.size ≤ 9223372036854775807) : ∃ r, laws_szChangeS.fL xs k = some r ∧ (r < 0 ∨ xs.length ≤ 1048576) := by
  rw [laws_szChangeS.fL_eq, w64 (by omega) (by omega)]
  by_cases h : k - (xs.length : Int) < 0
  · rw [if_pos h]; exact ⟨_, rfl, .inl (by omega)⟩
  · rw [if_neg h]
    obtain ⟨r, hr, _⟩ := szChangeS_l0 xs (by omega) hB xs.length 0 (k - xs.length) (by omega) (by omega) (by omega) (by omega)
    exact ⟨r, hr, .inr (by omega)⟩

/-! #### markText -/
theorem son_size (xs : List Int) : (strOfNums xs).size = xs.length := by simp [strOfNums, ByteArray.size]
theorem markText_l0 : ∀ (n : Nat) (k : Int) (s : ByteArray), 0 ≤ k → k < 10 ^ n → k ≤ 9223372036854775807 → s.size + n ≤ 1000 → ∃ r, laws_markText.l0L k s = some r
  | 0, k, s, h0, h1, h2, hs => by
    rw [laws_markText.l0L_eq, if_neg (by simp at h1; omega), if_pos (by omega)]; exact ⟨_, rfl⟩
  | n + 1, k, s, h0, h1, h2, hs => by
    by_cases e : k > 0
    · have hd : Int.tdiv k 10 = k / 10 := Int.tdiv_eq_ediv_of_nonneg h0
      have hp : (10 : Int) ^ (n + 1) = 10 ^ n * 10 := Int.pow_succ 10 n
      have h3 : k / 10 < 10 ^ n := by omega
      rw [laws_markText.l0L_eq, if_pos e, Option.bind_some, if_pos (by rw [son_size]; simp; omega), hd, w64 (n := k / 10) (by omega) (by omega)]
      exact markText_l0 n (k / 10) _ (by omega) h3 (by omega) (by rw [ByteArray.size_append, son_size]; simp; omega)
    · rw [laws_markText.l0L_eq, if_neg e, if_pos (by omega)]; exact ⟨_, rfl⟩
theorem markText_ok (k : Int) (h0 : 0 ≤ k) (h1 : k ≤ 9223372036854775807) : ∃ r, laws_markText.fL k = some r := by
  rw [laws_markText.fL_eq]
  by_cases e : k ≤ 0
  · rw [if_pos e]; exact ⟨_, rfl⟩
  · rw [if_neg e]; exact markText_l0 30 k _ h0 (by omega) h1 (show 0 + 30 ≤ 1000 by omega)
/-- The text of a mark. -/
noncomputable def mt (k : Int) : ByteArray := (laws_markText.fL k).getD (⟨#[]⟩ : ByteArray)
theorem mt_eq (k : Int) (h0 : 0 ≤ k) (h1 : k ≤ 9223372036854775807) : laws_markText.fL k = some (mt k) := by
  obtain ⟨r, hr⟩ := markText_ok k h0 h1
  unfold mt
  rw [hr]; rfl

/-! #### markChange -/
noncomputable def elChange (k : Int) : S110 := ⟨k, mt (k + 1), k + 1 + 1, k + 1 + 1 + 1⟩
theorem rd_set_change (xs : List S110) (i : Int) (y : S110) (h0 : 0 ≤ i) (h : i < xs.length) : rd_T110 (xs.set i.toNat y) i = y := by
  unfold rd_T110
  rw [List.getD_eq_getElem?_getD, List.getElem?_set_self (by omega)]; rfl
theorem markChangeS_f (xs : List S110) (k : Int) (hx : xs.length ≤ 1000000000) (hk : 0 ≤ k) (hk2 : k ≤ 100000000000) : laws_markChangeS.fL xs k = some (k + 4 * xs.length, marks elChange 4 xs.length k) := by
  rw [laws_markChangeS.fL_eq]
  refine mark_loop0 elChange 4 (by omega) (by omega) xs hx k hk hk2 (fun zs k i => laws_markChangeS.l0L zs k i) (fun zs k i h0 h1 hl hk hk2 => ?_)
  rw [laws_markChangeS.l0L_eq]
  by_cases h : i < (xs.length : Int)
  · have hz : i < (zs.length : Int) := by omega
    have hz2 : ∀ y, i < ((zs.set i.toNat y).length : Int) := fun y => by rw [List.length_set]; exact hz
    have hz3 : ∀ y z, i < (((zs.set i.toNat y).set i.toNat z).length : Int) := fun y z => by rw [List.length_set]; exact hz2 y
    rw [if_pos hz, if_pos h0, Option.bind_some, w64 (n := k + 1) (by omega) (by omega), mt_eq (k + 1) (by omega) (by omega), Option.bind_some, Option.bind_some, Option.bind_some, w64 (n := k + 1 + 1) (by omega) (by omega),
      w64 (n := k + 1 + 1 + 1) (by omega) (by omega), w64 (n := k + 1 + 1 + 1 + 1) (by omega) (by omega), w64 (n := i + 1) (by omega) (by omega), if_pos h]
    rw [rd_set_change ((zs.set i.toNat _).set i.toNat _) i _ h0 (hz3 _ _), rd_set_change (zs.set i.toNat _) i _ h0 (hz2 _), rd_set_change zs i _ h0 hz, List.set_set, List.set_set, List.set_set, show k + 1 + 1 + 1 + 1 = k + 4 by omega]
    rfl
  · rw [if_neg (by omega), if_neg h]
theorem heldChangeS_f (n : Nat) (k : Int) (hn : n ≤ 1000000000) (hk : 0 ≤ k) (hk2 : k ≤ 100000000000) : laws_heldChangeS.fL (marks elChange 4 n k) k = some (k + 4 * n) := by
  have hm := marks_length elChange 4 n k
  rw [laws_heldChangeS.fL_eq]
  refine held_loop0 elChange z110 4 (by omega) (by omega) n hn k hk hk2 (fun k' i => laws_heldChangeS.l0L (marks elChange 4 n k) k' i) (fun k' i h0 h1 hk hk2 he => ?_)
  rw [laws_heldChangeS.l0L_eq, hm]
  by_cases h : i < (n : Int)
  · have he := he h
    have hr : rd_T110 (marks elChange 4 n k) i = elChange k' := he
    rw [if_pos h, if_pos h0, hr, if_pos h]
    rw [if_pos (show (elChange k').f0 = k' from rfl), w64 (n := k' + 1) (by omega) (by omega), mt_eq (k' + 1) (by omega) (by omega), Option.bind_some, if_pos (show (elChange k').f1.toList = (mt (k' + 1)).toList from rfl),
      w64 (n := k' + 1 + 1) (by omega) (by omega), if_pos (show (elChange k').f2 = k' + 1 + 1 from rfl), w64 (n := k' + 1 + 1 + 1) (by omega) (by omega), if_pos (show (elChange k').f3 = k' + 1 + 1 + 1 from rfl),
      w64 (n := k' + 1 + 1 + 1 + 1) (by omega) (by omega), w64 (n := i + 1) (by omega) (by omega), show k' + 1 + 1 + 1 + 1 = k' + 4 by omega]
  · rw [if_neg h, if_neg h]

end Go.Proofs.Ytkejaolfbejokaa.Pure
