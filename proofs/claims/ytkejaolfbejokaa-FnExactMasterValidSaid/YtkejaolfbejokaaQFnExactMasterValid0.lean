/- Lemmas for FnExactMasterValid: what each function comes to. No condition. -/
import Derived.Test.YtkejaolfbejokaaLFnExactMasterValid
namespace Go.Proofs.Ytkejaolfbejokaa.Pure
open Go.RowKit Go.Proofs.Ytkejaolfbejokaa.PFnExactMasterValid Go.Proofs.YtkejaolfbejokaaW.PrintWords Go.Proofs.YtkejaolfbejokaaW.PrintLast Go.Proofs.YtkejaolfbejokaaW.PrintMore Go.Proofs.Ytkejaolfbejokaa.Lim
set_option linter.unusedVariables false
set_option linter.unusedSimpArgs false

/-! #### basic -/
theorem w64 {n : Int} (h1 : -9223372036854775808 ≤ n) (h2 : n ≤ 9223372036854775807) : wrap64 n = n := by unfold wrap64; omega
theorem wf64 {n : Int} (h : (Lit.int .i64 n).wf = true) : -9223372036854775808 ≤ n ∧ n ≤ 9223372036854775807 := by
  simp only [Lit.wf, IntKind.min, IntKind.max, IntKind.signed, IntKind.bits, Bool.and_eq_true, decide_eq_true_eq, if_true] at h
  omega
theorem wf8 {n : Int} (h : (Lit.int .u8 n).wf = true) : 0 ≤ n ∧ n ≤ 255 := by
  simp only [Lit.wf, IntKind.min, IntKind.max, IntKind.signed, IntKind.bits, Bool.and_eq_true, decide_eq_true_eq] at h
  simp at h
  omega
theorem mn_eq (a b : Int) : mn a b = if a ≤ b then a else b := by unfold mn; split <;> split <;> omega
theorem mx_eq (a b : Int) : mx a b = if a ≤ b then b else a := by unfold mx; split <;> split <;> omega
theorem rd_drop {xs : List Int} {i : Int} {y : Int} {ys : List Int} (h0 : 0 ≤ i) (h : xs.drop i.toNat = y :: ys) : rd xs i = y ∧ i < xs.length ∧ xs.drop (i + 1).toNat = ys := by
  have h1 : i.toNat < xs.length := by
    by_cases e : i.toNat < xs.length
    · exact e
    · rw [List.drop_eq_nil_of_le (by omega)] at h; cases h
  rw [List.drop_eq_getElem_cons h1] at h
  injection h with ha hb
  refine ⟨?_, by omega, ?_⟩
  · unfold rd; rw [List.getD_eq_getElem?_getD, List.getElem?_eq_getElem h1]; exact ha
  · rw [show (i + 1).toNat = i.toNat + 1 by omega]; exact hb
theorem drop_nil {α : Type} {xs : List α} {i : Int} (h0 : 0 ≤ i) (hi : i ≤ xs.length) (h : xs.drop i.toNat = []) : i = xs.length := by
  have := congrArg List.length h
  simp at this
  omega
theorem rdOf_drop {α : Type} {d : α} {xs : List α} {i : Int} {y : α} {ys : List α} (h0 : 0 ≤ i) (h : xs.drop i.toNat = y :: ys) : rdOf d xs i = y ∧ i < xs.length ∧ xs.drop (i + 1).toNat = ys := by
  have h1 : i.toNat < xs.length := by
    by_cases e : i.toNat < xs.length
    · exact e
    · rw [List.drop_eq_nil_of_le (by omega)] at h; cases h
  rw [List.drop_eq_getElem_cons h1] at h
  injection h with ha hb
  refine ⟨?_, by omega, ?_⟩
  · unfold rdOf; rw [List.getD_eq_getElem?_getD, List.getElem?_eq_getElem h1]; exact ha
  · rw [show (i + 1).toNat = i.toNat + 1 by omega]; exact hb

/-! #### bytes -/
/-- A string's bytes as numbers. -/
def bs (s : ByteArray) : List Int := s.data.toList.map fun b => (b.toNat : Int)
theorem bs_length (s : ByteArray) : (bs s).length = s.size := by simp [bs]
theorem bt_bs (s : ByteArray) (i : Int) : bt s i = rd (bs s) i := by
  unfold bt rd bs
  rw [List.getD_eq_getElem?_getD, List.getElem?_map]
  by_cases h : i.toNat < s.size
  · rw [dif_pos h, List.getElem?_eq_getElem (by simpa using h)]; simp; rfl
  · rw [dif_neg h, List.getElem?_eq_none (by simpa using h)]; rfl
theorem bs_range (s : ByteArray) : ∀ b ∈ bs s, 0 ≤ b ∧ b ≤ 255 := by
  intro b hb
  simp only [bs, List.mem_map] at hb
  obtain ⟨c, _, rfl⟩ := hb
  have := c.toNat_lt
  omega
theorem bs_inj {s t : ByteArray} (h : bs s = bs t) : s = t := by
  have h1 : s.data.toList = t.data.toList := by
    refine List.map_inj_right (f := fun b : UInt8 => (b.toNat : Int)) ?_ |>.1 h
    intro x y hxy
    exact UInt8.toNat_inj.1 (by omega)
  cases s; cases t
  simp only [ByteArray.mk.injEq]
  exact Array.ext' h1
theorem toList_loop (s : ByteArray) (i : Nat) (r : List UInt8) : ByteArray.toList.loop s i r = r.reverse ++ s.data.toList.drop i := by
  unfold ByteArray.toList.loop
  split
  next h =>
    rw [toList_loop s (i + 1) (s.get! i :: r)]
    have h' : i < s.data.toList.length := by simpa using h
    rw [List.drop_eq_getElem_cons h']
    have : s.get! i = s.data.toList[i] := by
      show s.data[i]! = _
      rw [getElem!_pos s.data i (by simpa using h)]; simp
    rw [this]; simp
  next h =>
    rw [List.drop_eq_nil_of_le (by simpa using h)]; simp
  termination_by s.size - i
theorem toList_data (s : ByteArray) : s.toList = s.data.toList := by
  unfold ByteArray.toList; rw [toList_loop]; simp
theorem toList_nil (s : ByteArray) : s.toList = [] ↔ bs s = [] := by rw [toList_data]; simp [bs]
theorem bs_drop (s : ByteArray) (i j : Nat) (hj : s.size ≤ j) : bs (s.extract i j) = (bs s).drop i := by
  unfold bs
  rw [ByteArray.data_extract, ← List.map_drop]
  congr 1
  rw [Array.toList_extract]
  have : s.data.toList.length = s.size := by simp
  simp only [List.extract]
  rw [List.take_of_length_le (by rw [List.length_drop]; omega)]
theorem bs_take (s : ByteArray) (j : Nat) : bs (s.extract 0 j) = (bs s).take j := by
  unfold bs
  rw [ByteArray.data_extract, ← List.map_take]
  congr 1
  rw [Array.toList_extract]
  simp [List.extract]

/-! #### keys -/
def letters (l : List Int) : Bool := l.all fun b => decide (97 ≤ b ∧ b ≤ 122)
/-- KeyValid, over the bytes. -/
def keyOk (l : List Int) : Bool := decide (1 ≤ l.length ∧ l.length ≤ 4) && letters l
theorem rd_zero {l : List Int} {b : Int} {t : List Int} (h : l = b :: t) : rd l 0 = b := by subst h; rfl
theorem impl_lettersOnly_f : ∀ (l : List Int) (s : ByteArray), bs s = l → impl_lettersOnly.fL s = some (letters l)
  | [], s, h => by rw [impl_lettersOnly.fL_eq, if_pos ((toList_nil s).2 h)]; rfl
  | b :: l, s, h => by
    have hs : s.size = l.length + 1 := by rw [← bs_length, h]; rfl
    have hn : ¬ s.toList = [] := by rw [toList_nil, h]; simp
    have hd : bs (s.extract 1 s.size) = l := by rw [bs_drop s 1 s.size (Nat.le_refl _), h]; rfl
    rw [impl_lettersOnly.fL_eq, if_neg hn, if_pos (by omega), bt_bs, rd_zero h, if_pos (by omega : (1 : Int) ≤ (s.size : Int)), impl_lettersOnly_f l _ hd, Option.bind_some]
    unfold letters
    rw [List.all_cons]
    by_cases h1 : b ≥ 97
    · rw [if_pos h1]
      by_cases h2 : b ≤ 122
      · rw [if_pos h2, show decide (97 ≤ b ∧ b ≤ 122) = true from decide_eq_true ⟨h1, h2⟩]; rfl
      · rw [if_neg h2, show decide (97 ≤ b ∧ b ≤ 122) = false from decide_eq_false (by omega)]; rfl
    · rw [if_neg h1, show decide (97 ≤ b ∧ b ≤ 122) = false from decide_eq_false (by omega)]; rfl
theorem impl_KeyValid_f (s : ByteArray) : impl_KeyValid.fL s = some (keyOk (bs s)) := by
  rw [impl_KeyValid.fL_eq, impl_lettersOnly_f _ s rfl, Option.bind_some]
  unfold keyOk
  rw [bs_length]
  by_cases h1 : (s.size : Int) < 1
  · rw [if_pos h1, decide_eq_false (by omega)]; rfl
  · rw [if_neg h1]
    by_cases h2 : (s.size : Int) > 4
    · rw [if_pos h2, decide_eq_false (by omega)]; rfl
    · rw [if_neg h2, decide_eq_true (by omega)]; rfl
theorem keyOk_len {l : List Int} (h : keyOk l = true) : 1 ≤ l.length ∧ l.length ≤ 4 := by
  simp only [keyOk, Bool.and_eq_true, decide_eq_true_eq] at h; exact h.1
theorem keyOk_letters {l : List Int} (h : keyOk l = true) : letters l = true := by
  simp only [keyOk, Bool.and_eq_true, decide_eq_true_eq] at h; exact h.2
theorem letters_cons {b : Int} {l : List Int} (h : letters (b :: l) = true) : (97 ≤ b ∧ b ≤ 122) ∧ letters l = true := by
  simp only [letters, List.all_cons, Bool.and_eq_true, decide_eq_true_eq] at h
  exact ⟨h.1, by simp only [letters]; exact h.2⟩

/-! #### Interval -/
theorem toList_eq_iff (a b : ByteArray) : a.toList = b.toList ↔ a = b := by
  rw [toList_data, toList_data]
  constructor
  · intro h
    cases a; cases b
    simp only [ByteArray.mk.injEq]
    exact Array.ext' h
  · intro h; rw [h]
/-- The least key of an interval with this lower bound. -/
def low (lo : ByteArray) : ByteArray := if lo.toList = [] then (⟨#[97]⟩ : ByteArray) else lo
def ivOk (lo hi : ByteArray) : Bool :=
  (decide (lo.toList = []) || keyOk (bs lo)) && (decide (hi.toList = []) || keyOk (bs hi)) && (decide (hi.toList = []) || Op.bytesLess (low lo).toList hi.toList)
theorem impl_lowestKey_f (lo hi : ByteArray) : impl_lowestKey.f lo hi = some (low lo) := by
  unfold impl_lowestKey.f low
  split <;> rfl
theorem impl_IntervalValid_f (lo hi : ByteArray) : impl_IntervalValid.fL lo hi = some (ivOk lo hi) := by
  rw [impl_IntervalValid.fL_eq, impl_KeyValid_f, impl_KeyValid_f, impl_lowestKey_f]
  simp only [Option.bind_some]
  unfold ivOk
  by_cases h1 : lo.toList = []
  · rw [if_pos h1, decide_eq_true h1]
    by_cases h2 : hi.toList = []
    · rw [if_pos h2, decide_eq_true h2]; rfl
    · rw [if_neg h2, decide_eq_false h2]
      cases keyOk (bs hi) <;> simp
  · rw [if_neg h1, decide_eq_false h1]
    by_cases h2 : hi.toList = []
    · rw [if_pos h2, decide_eq_true h2]
      cases keyOk (bs lo) <;> simp
    · rw [if_neg h2, decide_eq_false h2]
      cases keyOk (bs lo) <;> cases keyOk (bs hi) <;> simp
def joinOk (a b c d : ByteArray) : Bool := ivOk a b && ivOk c d && !decide (b.toList = []) && decide (b.toList = c.toList)
theorem impl_IntervalJoin_f (a b c d : ByteArray) : impl_IntervalJoin.fL a b c d = some (if joinOk a b c d = true then (a, d, true) else ((⟨#[]⟩ : ByteArray), (⟨#[]⟩ : ByteArray), false)) := by
  rw [impl_IntervalJoin.fL_eq, impl_IntervalValid_f, impl_IntervalValid_f]
  simp only [Option.bind_some]
  unfold joinOk
  cases ivOk a b with
  | false => simp
  | true =>
    cases ivOk c d with
    | false => simp
    | true =>
      by_cases h1 : b.toList = []
      · rw [decide_eq_true h1]; simp [h1]
      · rw [decide_eq_false h1]
        by_cases h2 : b.toList = c.toList
        · rw [decide_eq_true h2]
          rw [if_pos rfl, if_pos rfl, if_neg h1, if_pos h2]; simp
        · rw [decide_eq_false h2]
          rw [if_pos rfl, if_pos rfl, if_neg h1, if_neg h2]; simp

/-! #### Partition -/
/-- Each one begins where the one before it ends. -/
def chainFrom : S127 → List S127 → Bool
  | _, [] => true
  | p, y :: ys => joinOk p.f0 p.f1 y.f0 y.f1 && chainFrom y ys
def partOk (l : List S127) : Bool :=
  match l with
  | [] => false
  | v :: vs => decide (l.length ≤ 6) && ivOk v.f0 v.f1 && decide (v.f0.toList = []) && decide ((rd_T127 l ((l.length : Int) - 1)).f1.toList = []) && chainFrom v vs
theorem getD_iv {α : Type} {xs : List α} {d : α} {i : Int} {y : α} {ys : List α} (h0 : 0 ≤ i) (h : xs.drop i.toNat = y :: ys) : xs.getD i.toNat d = y ∧ i < xs.length ∧ xs.drop (i + 1).toNat = ys := by
  have h1 : i.toNat < xs.length := by
    by_cases e : i.toNat < xs.length
    · exact e
    · rw [List.drop_eq_nil_of_le (by omega)] at h; cases h
  rw [List.drop_eq_getElem_cons h1] at h
  injection h with ha hb
  refine ⟨?_, by omega, ?_⟩
  · rw [List.getD_eq_getElem?_getD, List.getElem?_eq_getElem h1]; exact ha
  · rw [show (i + 1).toNat = i.toNat + 1 by omega]; exact hb
theorem bne_nilB (l : List UInt8) : (l != []) = !decide (l = []) := by cases l <;> simp
theorem joinOk_right {a b c d : ByteArray} (h : ivOk c d = false) : joinOk a b c d = false := by
  unfold joinOk; rw [h]; simp
theorem impl_PartitionValid_l0 (xs : List S127) (hx : xs.length ≤ 6) : ∀ (ys : List S127) (i : Int), 1 ≤ i → i ≤ xs.length → xs.drop i.toNat = ys → impl_PartitionValid.l0L xs xs (xs.length : Int) i = some (chainFrom (rd_T127 xs (i - 1)) ys)
  | [], i, h0, h1, hd => by
    have := drop_nil (by omega) h1 hd
    rw [impl_PartitionValid.l0L_eq, if_neg (by omega)]; rfl
  | y :: ys, i, h0, h1, hd => by
    obtain ⟨hr0, hl, hd'⟩ := getD_iv (d := z127) (by omega) hd
    have hr : rd_T127 xs i = y := hr0
    have ih := impl_PartitionValid_l0 xs hx ys (i + 1) (by omega) (by omega) hd'
    rw [show i + 1 - 1 = i by omega, hr] at ih
    rw [impl_PartitionValid.l0L_eq, if_pos hl, if_pos (by omega), if_pos hl, hr, impl_IntervalValid_f, Option.bind_some, w64 (n := i - 1) (by omega) (by omega), w64 (n := i + 1) (by omega) (by omega), if_pos (show i > 0 by omega), if_pos (show 0 ≤ i - 1 by omega), if_pos (show i - 1 < (xs.length : Int) by omega), impl_IntervalJoin_f, Option.bind_some, ih]
    simp only [chainFrom]
    cases hv : ivOk y.f0 y.f1 with
    | false => rw [joinOk_right hv]; simp
    | true => cases joinOk (rd_T127 xs (i - 1)).f0 (rd_T127 xs (i - 1)).f1 y.f0 y.f1 <;> simp
theorem impl_PartitionValid_f (xs : List S127) : impl_PartitionValid.fL xs = some (partOk xs) := by
  have jt : impl_PartitionValid.j0L xs true = some false := by rw [impl_PartitionValid.j0L_eq, if_pos rfl]
  rw [impl_PartitionValid.fL_eq, jt]
  unfold partOk
  cases xs with
  | nil => rfl
  | cons v vs =>
    have hlen : ((v :: vs).length : Int) = (vs.length : Int) + 1 := by simp
    have hv : rd_T127 (v :: vs) 0 = v := rfl
    rw [if_neg (by omega)]
    by_cases h6 : ((v :: vs).length : Int) > 6
    · rw [if_pos h6]
      dsimp only
      rw [decide_eq_false (by omega)]; simp
    · rw [if_neg h6, if_pos (by omega), hv]
      dsimp only
      rw [decide_eq_true (p := (v :: vs).length ≤ 6) (by omega)]
      by_cases h1 : v.f0.toList = []
      · rw [if_pos h1, decide_eq_true h1, w64 (by omega) (by omega), if_pos (by omega), if_pos (by omega), bne_nilB]
        by_cases h2 : (rd_T127 (v :: vs) (((v :: vs).length : Int) - 1)).f1.toList = []
        · rw [decide_eq_true h2, Bool.not_true, impl_PartitionValid.j0L_eq, if_neg (by simp), impl_PartitionValid.l0L_eq, if_pos (by omega), if_pos (by omega), if_pos (by omega), hv, impl_IntervalValid_f, Option.bind_some, if_neg (show ¬ ((0 : Int) > 0) by omega), w64 (n := 0 + 1) (by omega) (by omega),
            impl_PartitionValid_l0 (v :: vs) (by omega) vs (0 + 1) (by omega) (by omega) (by simp)]
          rw [show (0 : Int) + 1 - 1 = 0 by omega, hv]
          cases ivOk v.f0 v.f1 <;> simp
        · rw [decide_eq_false h2, Bool.not_false, jt]; simp
      · rw [if_neg h1, decide_eq_false h1]; simp

/-! #### Plan -/
def planOk (k f s : Int) (key : ByteArray) (fr tt st : Int) : Bool :=
  decide (0 ≤ f ∧ f ≤ 7) &&
    (if k = 1 then keyOk (bs key) && decide (s = 0 ∧ fr = 0 ∧ tt = 0 ∧ st = 0)
     else if k = 2 then decide (0 ≤ s ∧ s ≤ 7 ∧ ¬ s = f) && decide (key.toList = []) && decide (fr = 0 ∧ tt = 0 ∧ st = 0)
     else if k = 3 then decide (0 ≤ fr ∧ fr ≤ 4 ∧ 0 ≤ tt ∧ tt ≤ 4 ∧ ¬ fr = tt ∧ 0 ≤ st ∧ st ≤ 1 ∧ s = 0) && decide (key.toList = [])
     else false)
theorem beq_decI (a b : Int) : (a == b) = decide (a = b) := by
  rw [Bool.eq_iff_iff]; simp
theorem beq_decL (l : List UInt8) : (l == []) = decide (l = []) := by cases l <;> simp
theorem impl_shardNumber_f (a : Int) : impl_shardNumber.f a = some (decide (0 ≤ a ∧ a ≤ 7)) := by
  unfold impl_shardNumber.f
  by_cases h : a ≥ 0
  · rw [if_pos h]; congr 1; rw [decide_eq_decide]; omega
  · rw [if_neg h]; congr 1; rw [eq_comm, decide_eq_false_iff_not]; omega
theorem impl_nodeValid_f (a : Int) : impl_nodeValid.f a = some (decide (0 ≤ a ∧ a ≤ 4)) := by
  unfold impl_nodeValid.f
  by_cases h : a ≥ 0
  · rw [if_pos h]; congr 1; rw [decide_eq_decide]; omega
  · rw [if_neg h]; congr 1; rw [eq_comm, decide_eq_false_iff_not]; omega
theorem impl_PlanValid_f (k f s : Int) (key : ByteArray) (fr tt st : Int) : impl_PlanValid.fL k f s key fr tt st = some (planOk k f s key fr tt st) := by
  rw [impl_PlanValid.fL_eq, impl_shardNumber_f, impl_shardNumber_f, impl_KeyValid_f, impl_nodeValid_f, impl_nodeValid_f]
  simp only [Option.bind_some, decide_eq_true_eq, beq_decI, beq_decL]
  unfold planOk
  by_cases hf : 0 ≤ f ∧ f ≤ 7
  · rw [if_pos hf, decide_eq_true hf, Bool.true_and]
    by_cases k1 : k = 1
    · rw [if_pos k1, if_pos k1]
      cases keyOk (bs key) with
      | false => rfl
      | true =>
        rw [if_pos rfl, decide_eq_true k1]
        by_cases a1 : s = 0 <;> by_cases a2 : fr = 0 <;> by_cases a3 : tt = 0 <;> by_cases a4 : st = 0 <;> simp [a1, a2, a3, a4]
    · rw [if_neg k1, if_neg k1]
      by_cases k2 : k = 2
      · rw [if_pos k2, if_pos k2, decide_eq_true k2]
        by_cases hs : 0 ≤ s ∧ s ≤ 7
        · rw [if_pos hs]
          by_cases e : s = f
          · rw [if_pos e, decide_eq_false (p := 0 ≤ s ∧ s ≤ 7 ∧ ¬ s = f) (by omega)]; rfl
          · rw [if_neg e, decide_eq_true (p := 0 ≤ s ∧ s ≤ 7 ∧ ¬ s = f) (by omega)]
            by_cases a1 : key.toList = [] <;> by_cases a2 : fr = 0 <;> by_cases a3 : tt = 0 <;> by_cases a4 : st = 0 <;> simp [a1, a2, a3, a4]
        · rw [if_neg hs, decide_eq_false (p := 0 ≤ s ∧ s ≤ 7 ∧ ¬ s = f) (by omega)]; rfl
      · rw [if_neg k2, if_neg k2]
        by_cases k3 : k = 3
        · rw [if_pos k3, if_pos k3]
          by_cases h1 : 0 ≤ fr ∧ fr ≤ 4
          · rw [if_pos h1]
            by_cases h2 : 0 ≤ tt ∧ tt ≤ 4
            · rw [if_pos h2]
              by_cases e : fr = tt
              · rw [if_pos e, decide_eq_false (by omega)]; rfl
              · rw [if_neg e]
                by_cases a4 : st = 0
                · rw [if_pos a4]
                  by_cases a1 : s = 0
                  · rw [if_pos a1, decide_eq_true (p := 0 ≤ fr ∧ _) (by omega)]; rfl
                  · rw [if_neg a1, decide_eq_false (p := 0 ≤ fr ∧ _) (by omega)]; rfl
                · rw [if_neg a4]
                  by_cases a5 : st = 1
                  · rw [if_pos a5]
                    by_cases a1 : s = 0
                    · rw [if_pos a1, decide_eq_true (p := 0 ≤ fr ∧ _) (by omega)]; rfl
                    · rw [if_neg a1, decide_eq_false (p := 0 ≤ fr ∧ _) (by omega)]; rfl
                  · rw [if_neg a5, decide_eq_false (by omega)]; rfl
            · rw [if_neg h2, decide_eq_false (by omega)]; rfl
          · rw [if_neg h1, decide_eq_false (by omega)]; rfl
        · rw [if_neg k3, if_neg k3]
  · rw [if_neg hf, decide_eq_false hf]; rfl

/-! #### Routes -/
/-- The numbers are those of shards, and differ from those before. -/
def numsFrom : List Int → List S129 → Bool
  | _, [] => true
  | pre, y :: ys => decide (0 ≤ y.f0 ∧ y.f0 ≤ 7) && !decide (y.f0 ∈ pre) && numsFrom (pre ++ [y.f0]) ys
def spans (l : List S129) : List S127 := l.map fun r => ⟨r.f1.f0, r.f1.f1⟩
def routesOk (l : List S129) : Bool := decide (l.length ≤ 6) && partOk (spans l) && numsFrom [] l
theorem impl_spansOf_l0 (xs : List S129) (hx : xs.length ≤ 1000000000000) : ∀ (ys : List S129) (i : Int) (out : List S127), 0 ≤ i → i ≤ xs.length → (out.length : Int) ≤ i → xs.drop i.toNat = ys → impl_spansOf.l0L out xs (xs.length : Int) i = some (out ++ spans ys)
  | [], i, out, h0, h1, hl, hd => by
    have := drop_nil h0 h1 hd
    rw [impl_spansOf.l0L_eq, if_neg (by omega)]; simp [spans]
  | y :: ys, i, out, h0, h1, ho, hd => by
    obtain ⟨hr0, hl, hd'⟩ := getD_iv (d := z129) h0 hd
    have hr : rd_T129 xs i = y := hr0
    rw [impl_spansOf.l0L_eq, if_pos hl, if_pos h0, if_pos hl, if_pos (by omega), hr, w64 (by omega) (by omega), impl_spansOf_l0 xs hx ys (i + 1) _ (by omega) (by omega) (by simp; omega) hd']
    simp [spans]
theorem impl_spansOf_f (xs : List S129) (hx : xs.length ≤ 1000000000000) : impl_spansOf.fL xs = some (spans xs) := by
  rw [impl_spansOf.fL_eq, impl_spansOf_l0 xs hx xs 0 [] (by omega) (by omega) (by simp) (by simp)]; simp
/-- Where a number is first, from an index on; -1 if nowhere. -/
def placeFrom (n : Int) : List S129 → Int → Int
  | [], _ => -1
  | y :: ys, i => if y.f0 = n then i else placeFrom n ys (i + 1)
theorem impl_routePlace_l0 (xs : List S129) (n : Int) (hx : xs.length ≤ 1000000000000) : ∀ (ys : List S129) (i : Int), 0 ≤ i → i ≤ xs.length → xs.drop i.toNat = ys → impl_routePlace.l0L n xs (xs.length : Int) i = some (placeFrom n ys i)
  | [], i, h0, h1, hd => by
    have := drop_nil h0 h1 hd
    rw [impl_routePlace.l0L_eq, if_neg (by omega)]; rfl
  | y :: ys, i, h0, h1, hd => by
    obtain ⟨hr0, hl, hd'⟩ := getD_iv (d := z129) h0 hd
    have hr : rd_T129 xs i = y := hr0
    rw [impl_routePlace.l0L_eq, if_pos hl, if_pos h0, if_pos hl, hr, w64 (by omega) (by omega)]
    simp only [placeFrom]
    by_cases e : y.f0 = n
    · rw [if_pos e, if_pos e]
    · rw [if_neg e, if_neg e]; exact impl_routePlace_l0 xs n hx ys (i + 1) (by omega) (by omega) hd'
theorem impl_routePlace_f (xs : List S129) (n : Int) (hx : xs.length ≤ 1000000000000) : impl_routePlace.fL xs n = some (placeFrom n xs 0) := by
  rw [impl_routePlace.fL_eq]; exact impl_routePlace_l0 xs n hx xs 0 (by omega) (by omega) (by simp)
theorem placeFrom_ge (n : Int) : ∀ (ys : List S129) (i : Int), 0 ≤ i → (placeFrom n ys i ≥ 0 ↔ n ∈ ys.map fun r => r.f0)
  | [], i, _ => by simp [placeFrom]
  | y :: ys, i, h => by
    have ih := placeFrom_ge n ys (i + 1) (by omega)
    simp only [placeFrom, List.map_cons, List.mem_cons]
    by_cases e : y.f0 = n
    · rw [if_pos e]; simp [e, h]
    · rw [if_neg e, ih]
      have e' : ¬ n = y.f0 := fun h => e h.symm
      simp [e']
theorem impl_numbersDiffer_l0 (xs : List S129) (hx : xs.length ≤ 1000000000000) : ∀ (ys : List S129) (i : Int), 0 ≤ i → i ≤ xs.length → xs.drop i.toNat = ys → impl_numbersDiffer.l0L xs xs (xs.length : Int) i = some (numsFrom ((xs.take i.toNat).map fun r => r.f0) ys)
  | [], i, h0, h1, hd => by
    have := drop_nil h0 h1 hd
    rw [impl_numbersDiffer.l0L_eq, if_neg (by omega)]; rfl
  | y :: ys, i, h0, h1, hd => by
    obtain ⟨hr0, hl, hd'⟩ := getD_iv (d := z129) h0 hd
    have hr : rd_T129 xs i = y := hr0
    have htk : xs.take (i.toNat + 1) = xs.take i.toNat ++ [y] := by
      have h2 : i.toNat < xs.length := by omega
      rw [List.take_succ_eq_append_getElem h2]
      have := hr0
      rw [List.getD_eq_getElem?_getD, List.getElem?_eq_getElem h2] at this
      simp at this
      rw [this]
    rw [impl_numbersDiffer.l0L_eq, if_pos hl, if_pos h0, if_pos hl, hr, impl_shardNumber_f, Option.bind_some, if_pos h1, impl_routePlace_f _ _ (by rw [List.length_take]; omega), Option.bind_some, w64 (by omega) (by omega),
      impl_numbersDiffer_l0 xs hx ys (i + 1) (by omega) (by omega) hd', show (i + 1).toNat = i.toNat + 1 by omega, htk]
    simp only [numsFrom, List.map_append, List.map_cons, List.map_nil]
    have hp := placeFrom_ge y.f0 (xs.take i.toNat) 0 (by omega)
    by_cases h2 : 0 ≤ y.f0 ∧ y.f0 ≤ 7
    · rw [decide_eq_true h2, if_pos rfl]
      by_cases h3 : y.f0 ∈ (xs.take i.toNat).map fun r => r.f0
      · rw [if_pos (hp.2 h3), decide_eq_true h3]; rfl
      · rw [if_neg (fun e => h3 (hp.1 e)), decide_eq_false h3]; rfl
    · rw [decide_eq_false h2, if_neg (by simp)]; rfl
theorem impl_numbersDiffer_f (xs : List S129) (hx : xs.length ≤ 1000000000000) : impl_numbersDiffer.fL xs = some (numsFrom [] xs) := by
  rw [impl_numbersDiffer.fL_eq, impl_numbersDiffer_l0 xs hx xs 0 (by omega) (by omega) (by simp)]; simp
theorem impl_RoutesValid_f (xs : List S129) : impl_RoutesValid.fL xs = some (routesOk xs) := by
  rw [impl_RoutesValid.fL_eq]
  unfold routesOk
  by_cases h : (xs.length : Int) ≤ 6
  · rw [if_pos h, impl_spansOf_f xs (by omega), Option.bind_some, impl_PartitionValid_f, Option.bind_some, impl_numbersDiffer_f xs (by omega), Option.bind_some, decide_eq_true (by omega)]
    cases partOk (spans xs) <;> rfl
  · rw [if_neg h, decide_eq_false (by omega)]; rfl

/-! #### Master -/
def workZero (k f s : Int) (key : ByteArray) (fr tt st : Int) : Bool := k == 0 && (f == 0 && (s == 0 && (key.toList == ([] : List UInt8) && (fr == 0 && (tt == 0 && (st == 0))))))
def workOk (k f s : Int) (key : ByteArray) (fr tt st sh : Int) : Bool := workZero k f s key fr tt st || (planOk k f s key fr tt st && decide (f < sh ∧ s < sh))
def masterOk (rs : List S129) (sh k f s : Int) (key : ByteArray) (fr tt st turn : Int) : Bool :=
  routesOk rs && decide (1 ≤ sh ∧ sh ≤ 8) && decide (0 ≤ turn ∧ turn ≤ 999) && (rs.all fun r => decide (r.f0 < sh)) && workOk k f s key fr tt st sh
theorem impl_MasterValid_l0 (xs : List S129) (hx : xs.length ≤ 1000000000000) (sh k f s : Int) (key : ByteArray) (fr tt st turn : Int) : ∀ (ys : List S129) (i : Int), 0 ≤ i → i ≤ xs.length → xs.drop i.toNat = ys →
    impl_MasterValid.l0L xs (xs.length : Int) i xs sh k f s key fr tt st turn = some ((ys.all fun r => decide (r.f0 < sh)) && workOk k f s key fr tt st sh)
  | [], i, h0, h1, hd => by
    have := drop_nil h0 h1 hd
    rw [impl_MasterValid.l0L_eq, if_neg (by omega), impl_PlanValid_f, Option.bind_some]
    unfold workOk
    rw [show (k == 0 && (f == 0 && (s == 0 && (key.toList == ([] : List UInt8) && (fr == 0 && (tt == 0 && (st == 0))))))) = workZero k f s key fr tt st from rfl]
    cases workZero k f s key fr tt st with
    | true => simp
    | false =>
      rw [if_neg (by simp)]
      cases planOk k f s key fr tt st with
      | false => simp
      | true =>
        rw [if_pos rfl]
        by_cases a : f < sh
        · rw [if_pos a]; simp [a]
        · rw [if_neg a]; simp [a]
  | y :: ys, i, h0, h1, hd => by
    obtain ⟨hr0, hl, hd'⟩ := getD_iv (d := z129) h0 hd
    have hr : rd_T129 xs i = y := hr0
    rw [impl_MasterValid.l0L_eq, if_pos hl, if_pos h0, if_pos hl, hr, w64 (by omega) (by omega), impl_MasterValid_l0 xs hx sh k f s key fr tt st turn ys (i + 1) (by omega) (by omega) hd', List.all_cons]
    by_cases e : y.f0 ≥ sh
    · rw [if_pos e, decide_eq_false (by omega)]; rfl
    · rw [if_neg e, decide_eq_true (by omega)]; rfl
theorem impl_MasterValid_f (xs : List S129) (hx : xs.length ≤ 1000000000000) (sh k f s : Int) (key : ByteArray) (fr tt st turn : Int) : impl_MasterValid.fL xs sh k f s key fr tt st turn = some (masterOk xs sh k f s key fr tt st turn) := by
  have jt : impl_MasterValid.j0L true xs sh k f s key fr tt st turn = some false := by rw [impl_MasterValid.j0L_eq, if_pos rfl]
  rw [impl_MasterValid.fL_eq, impl_RoutesValid_f, Option.bind_some, jt]
  unfold masterOk
  cases routesOk xs with
  | false => rfl
  | true =>
    rw [if_pos rfl]
    by_cases h1 : sh < 1
    · rw [if_pos h1, decide_eq_false (p := 1 ≤ sh ∧ sh ≤ 8) (by omega)]; rfl
    · rw [if_neg h1]
      by_cases h2 : sh > 8
      · rw [if_pos h2, decide_eq_false (p := 1 ≤ sh ∧ sh ≤ 8) (by omega)]; rfl
      · rw [if_neg h2, decide_eq_true (p := 1 ≤ sh ∧ sh ≤ 8) (by omega)]
        by_cases h3 : turn < 0
        · rw [if_pos h3, decide_eq_false (p := 0 ≤ turn ∧ turn ≤ 999) (by omega)]; rfl
        · rw [if_neg h3]
          by_cases h4 : turn > 999
          · rw [decide_eq_true h4, jt, decide_eq_false (p := 0 ≤ turn ∧ turn ≤ 999) (by omega)]; rfl
          · rw [decide_eq_false h4, impl_MasterValid.j0L_eq, if_neg (by simp), impl_MasterValid_l0 xs hx sh k f s key fr tt st turn xs 0 (by omega) (by omega) (by simp), decide_eq_true (p := 0 ≤ turn ∧ turn ≤ 999) (by omega)]; rfl

/-! #### spec_l1In -/
theorem spec_l1In_f (a lo hi : Int) : spec_l1In.f a lo hi = some (decide (lo ≤ a ∧ a ≤ hi)) := by
  unfold spec_l1In.f
  by_cases h : a ≥ lo
  · rw [if_pos h]; congr 1; rw [decide_eq_decide]; omega
  · rw [if_neg h]; congr 1; rw [eq_comm, decide_eq_false_iff_not]; omega

/-! #### spec_KeyValid -/
theorem spec_KeyValid_l0 (s : ByteArray) (hs : s.size ≤ 1000) : ∀ (ys : List Int) (i : Int), 0 ≤ i → i ≤ s.size → (bs s).drop i.toNat = ys → spec_KeyValid.l0L s i = some (letters ys)
  | [], i, h0, h1, hd => by
    have := drop_nil h0 (by rw [bs_length]; exact h1) hd
    rw [bs_length] at this
    rw [spec_KeyValid.l0L_eq, if_neg (by omega)]; rfl
  | y :: ys, i, h0, h1, hd => by
    obtain ⟨hr, hl, hd'⟩ := rd_drop h0 hd
    rw [bs_length] at hl
    rw [spec_KeyValid.l0L_eq, if_pos hl, if_pos h0, bt_bs, hr, w64 (by omega) (by omega)]
    unfold letters
    rw [List.all_cons]
    by_cases e1 : y < 97
    · rw [if_pos e1, decide_eq_false (by omega)]; rfl
    · rw [if_neg e1]
      by_cases e2 : y > 122
      · rw [if_pos e2, decide_eq_false (by omega)]; rfl
      · rw [if_neg e2, decide_eq_true (by omega), spec_KeyValid_l0 s hs ys (i + 1) (by omega) (by omega) hd']; rfl
theorem spec_KeyValid_f (s : ByteArray) : spec_KeyValid.fL s = some (keyOk (bs s)) := by
  rw [spec_KeyValid.fL_eq, spec_l1In_f, Option.bind_some]
  unfold keyOk
  rw [bs_length]
  by_cases h : 1 ≤ (s.size : Int) ∧ (s.size : Int) ≤ 4
  · rw [if_pos (by simpa using h), decide_eq_true (by omega), spec_KeyValid_l0 s (by omega) (bs s) 0 (by omega) (by omega) (by simp)]; rfl
  · rw [if_neg (by simpa using h), decide_eq_false (by omega)]; rfl

/-! #### spec_Interval -/
theorem less_a (hi : ByteArray) (h : keyOk (bs hi) = true) : (Op.bytesLess [] hi.toList && (hi.toList != [97])) = Op.bytesLess [97] hi.toList := by
  have hl : letters (bs hi) = true := keyOk_letters h
  have hn := (keyOk_len h).1
  have hb : bs hi = hi.toList.map fun b => (b.toNat : Int) := by rw [toList_data]; rfl
  rw [hb] at hl hn
  cases e : hi.toList with
  | nil => rw [e] at hn; simp at hn
  | cons b l =>
    rw [e] at hl
    obtain ⟨h1, _⟩ := letters_cons hl
    have h1 : 97 ≤ (b.toNat : Int) ∧ (b.toNat : Int) ≤ 122 := h1
    simp only [Op.bytesLess]
    by_cases hb97 : b = 97
    · subst hb97
      cases l with
      | nil => simp [Op.bytesLess]
      | cons c l => simp [Op.bytesLess]
    · have hlt : (97 : UInt8) < b := by
        rw [UInt8.lt_iff_toNat_lt]
        have : b.toNat ≠ (97 : UInt8).toNat := fun e => hb97 (UInt8.toNat_inj.1 e)
        have e97 : (97 : UInt8).toNat = 97 := rfl
        omega
      simp [hlt, hb97]
theorem spec_IntervalValid_f (lo hi : ByteArray) : spec_IntervalValid.fL lo hi = some (ivOk lo hi) := by
  rw [spec_IntervalValid.fL_eq, spec_KeyValid_f, spec_KeyValid_f]
  simp only [Option.bind_some]
  unfold ivOk low
  by_cases h1 : lo.toList = []
  · rw [if_pos h1, if_pos h1, decide_eq_true h1]
    by_cases h2 : hi.toList = []
    · rw [if_pos h2, decide_eq_true h2]; rfl
    · rw [if_neg h2, decide_eq_false h2]
      cases hk : keyOk (bs hi) with
      | false => simp
      | true =>
        have e97 : (⟨#[97]⟩ : ByteArray).toList = [97] := by rw [toList_data]
        rw [h1, e97, ← less_a hi hk]
        cases Op.bytesLess [] hi.toList <;> simp
  · rw [if_neg h1, if_neg h1, decide_eq_false h1]
    by_cases h2 : hi.toList = []
    · rw [if_pos h2, decide_eq_true h2]
      cases keyOk (bs lo) <;> simp
    · rw [if_neg h2, decide_eq_false h2]
      cases keyOk (bs lo) <;> cases keyOk (bs hi) <;> cases Op.bytesLess lo.toList hi.toList <;> simp
theorem spec_IntervalJoin_f (a b c d : ByteArray) : spec_IntervalJoin.fL a b c d = some (if joinOk a b c d = true then (a, d, true) else ((⟨#[]⟩ : ByteArray), (⟨#[]⟩ : ByteArray), false)) := by
  rw [spec_IntervalJoin.fL_eq, spec_IntervalValid_f, spec_IntervalValid_f]
  simp only [Option.bind_some]
  unfold joinOk
  cases ivOk a b with
  | false => simp
  | true =>
    cases ivOk c d with
    | false => simp
    | true =>
      by_cases h1 : b.toList = []
      · rw [decide_eq_true h1]; simp [h1]
      · rw [decide_eq_false h1]
        by_cases h2 : b.toList = c.toList
        · rw [decide_eq_true h2]
          rw [if_pos rfl, if_pos rfl, if_neg h1, if_pos h2]; simp
        · rw [decide_eq_false h2]
          rw [if_pos rfl, if_pos rfl, if_neg h1, if_neg h2]; simp

/-! #### spec_Partition -/
theorem spec_PartitionValid_l0 (xs : List S127) (hx : xs.length ≤ 6) : ∀ (ys : List S127) (i : Int), 1 ≤ i → i ≤ xs.length → xs.drop i.toNat = ys → spec_PartitionValid.l0L xs i = some (chainFrom (rd_T127 xs (i - 1)) ys)
  | [], i, h0, h1, hd => by
    have := drop_nil (by omega) h1 hd
    rw [spec_PartitionValid.l0L_eq, if_neg (by omega)]; rfl
  | y :: ys, i, h0, h1, hd => by
    obtain ⟨hr0, hl, hd'⟩ := getD_iv (d := z127) (by omega) hd
    have hr : rd_T127 xs i = y := hr0
    have ih := spec_PartitionValid_l0 xs hx ys (i + 1) (by omega) (by omega) hd'
    rw [show i + 1 - 1 = i by omega, hr] at ih
    rw [spec_PartitionValid.l0L_eq, if_pos hl, w64 (n := i - 1) (by omega) (by omega), w64 (n := i + 1) (by omega) (by omega), if_pos (by omega), if_pos (by omega), if_pos (by omega), hr, spec_IntervalJoin_f, Option.bind_some, ih]
    simp only [chainFrom]
    cases joinOk (rd_T127 xs (i - 1)).f0 (rd_T127 xs (i - 1)).f1 y.f0 y.f1 <;> simp
theorem spec_PartitionValid_f (xs : List S127) : spec_PartitionValid.fL xs = some (partOk xs) := by
  have jt : spec_PartitionValid.j0L xs true = some false := by rw [spec_PartitionValid.j0L_eq, if_pos rfl]
  rw [spec_PartitionValid.fL_eq, jt, spec_l1In_f, Option.bind_some]
  unfold partOk
  cases xs with
  | nil => rfl
  | cons v vs =>
    have hlen : ((v :: vs).length : Int) = (vs.length : Int) + 1 := by simp
    have hv : rd_T127 (v :: vs) 0 = v := rfl
    by_cases h6 : ((v :: vs).length : Int) > 6
    · rw [if_neg (by simp only [decide_eq_true_eq]; omega)]
      dsimp only
      rw [decide_eq_false (by omega)]; simp
    · rw [if_pos (by simp only [decide_eq_true_eq]; omega), if_pos (by omega), hv, spec_IntervalValid_f, Option.bind_some]
      dsimp only
      rw [decide_eq_true (p := (v :: vs).length ≤ 6) (by omega)]
      cases hi : ivOk v.f0 v.f1 with
      | false => simp
      | true =>
        by_cases h1 : v.f0.toList = []
        · rw [if_pos rfl, if_pos h1, decide_eq_true h1, w64 (by omega) (by omega), if_pos (by omega), if_pos (by omega), bne_nilB]
          by_cases h2 : (rd_T127 (v :: vs) (((v :: vs).length : Int) - 1)).f1.toList = []
          · rw [decide_eq_true h2, Bool.not_true, spec_PartitionValid.j0L_eq, if_neg (by simp), spec_PartitionValid_l0 (v :: vs) (by omega) vs 1 (by omega) (by omega) (by simp)]
            rw [show (1 : Int) - 1 = 0 by omega, hv]; simp
          · rw [decide_eq_false h2, Bool.not_false, jt]; simp
        · rw [if_pos rfl, if_neg h1, decide_eq_false h1]; simp

/-! #### spec_Routes -/
theorem spec_RoutesValid_l1 (xs : List S129) (out : List S127) (ho : out.length ≤ 100) (hx : xs.length ≤ 1000000000000) (k : Int) (y : S129) (h0 : 0 ≤ k) (hk : k < xs.length) (hy : rd_T129 xs k = y) : ∀ (zs : List S129) (j : Int), 0 ≤ j → j ≤ k → (xs.take k.toNat).drop j.toNat = zs → spec_RoutesValid.l1L xs out k j = if y.f0 ∈ zs.map (fun r => r.f0) then some false else spec_RoutesValid.l0L xs (out ++ [⟨y.f1.f0, y.f1.f1⟩]) (k + 1)
  | [], j, h1, h2, hd => by
    have hl : (xs.take k.toNat).length = k.toNat := by rw [List.length_take]; omega
    have := drop_nil h1 (by omega) hd
    rw [spec_RoutesValid.l1L_eq, if_neg (by omega), if_pos h0, if_pos hk, if_pos (by omega), hy, w64 (by omega) (by omega), if_neg (by simp)]
  | z :: zs, j, h1, h2, hd => by
    have hl : (xs.take k.toNat).length = k.toNat := by rw [List.length_take]; omega
    obtain ⟨hr, hlt, hd'⟩ := getD_iv (d := z129) h1 hd
    have hr' : rd_T129 xs j = z := by
      rw [← hr]; unfold rd_T129
      rw [List.getD_eq_getElem?_getD, List.getD_eq_getElem?_getD, List.getElem?_take, if_pos (by omega)]
    rw [spec_RoutesValid.l1L_eq, if_pos (by omega), if_pos h1, if_pos (by omega), if_pos h0, if_pos hk, hr', hy, w64 (by omega) (by omega)]
    by_cases e : z.f0 = y.f0
    · rw [if_pos e, if_pos (by simp [e])]
    · rw [if_neg e, spec_RoutesValid_l1 xs out ho hx k y h0 hk hy zs (j + 1) (by omega) (by omega) hd']
      have e' : ¬ y.f0 = z.f0 := fun h => e h.symm
      simp [e']
theorem spec_RoutesValid_l0 (xs : List S129) (hx : xs.length ≤ 1000000000000) : ∀ (ys : List S129) (i : Int), 0 ≤ i → i ≤ 6 → i ≤ xs.length → xs.drop i.toNat = ys → spec_RoutesValid.l0L xs (spans (xs.take i.toNat)) i = some (decide (xs.length ≤ 6) && partOk (spans xs) && numsFrom ((xs.take i.toNat).map fun r => r.f0) ys)
  | [], i, h0, h6, h1, hd => by
    have := drop_nil h0 h1 hd
    rw [spec_RoutesValid.l0L_eq, if_neg (by omega), List.take_of_length_le (by omega), spec_PartitionValid_f, Option.bind_some, decide_eq_true (by omega)]; simp [numsFrom]
  | y :: ys, i, h0, h6, h1, hd => by
    obtain ⟨hr0, hl, hd'⟩ := getD_iv (d := z129) h0 hd
    have hr : rd_T129 xs i = y := hr0
    have jt : spec_RoutesValid.j1L xs (spans (xs.take i.toNat)) i true = some false := by rw [spec_RoutesValid.j1L_eq, if_pos rfl]
    have htk : xs.take (i.toNat + 1) = xs.take i.toNat ++ [y] := by
      have h2 : i.toNat < xs.length := by omega
      rw [List.take_succ_eq_append_getElem h2]
      have := hr0
      rw [List.getD_eq_getElem?_getD, List.getElem?_eq_getElem h2] at this
      simp at this
      rw [this]
    rw [spec_RoutesValid.l0L_eq, if_pos hl]
    by_cases c : i ≥ 6
    · rw [if_pos c, jt, decide_eq_false (by omega)]; rfl
    · rw [if_neg c, if_pos h0, hr, spec_l1In_f, Option.bind_some]
      by_cases h2 : 0 ≤ y.f0 ∧ y.f0 ≤ 7
      · have e2 : spans (xs.take i.toNat) ++ [⟨y.f1.f0, y.f1.f1⟩] = spans (xs.take (i.toNat + 1)) := by rw [htk]; simp [spans]
        have ih := spec_RoutesValid_l0 xs hx ys (i + 1) (by omega) (by omega) (by omega) hd'
        rw [show (i + 1).toNat = i.toNat + 1 by omega] at ih
        rw [decide_eq_true h2, Bool.not_true, spec_RoutesValid.j1L_eq, if_neg (by simp), spec_RoutesValid_l1 xs (spans (xs.take i.toNat)) (by simp [spans]; omega) hx i y h0 hl hr (xs.take i.toNat) 0 (by omega) h0 (by simp), e2, ih, htk]
        simp only [numsFrom, List.map_append, List.map_cons, List.map_nil]
        by_cases h3 : y.f0 ∈ (xs.take i.toNat).map fun r => r.f0
        · rw [if_pos h3, decide_eq_true h3]; simp
        · rw [if_neg h3, decide_eq_false h3, decide_eq_true h2]; simp
      · rw [decide_eq_false h2, Bool.not_false, jt]
        simp only [numsFrom]
        rw [decide_eq_false h2]; simp
theorem spec_RoutesValid_f (xs : List S129) (hx : xs.length ≤ 1000000000000) : spec_RoutesValid.fL xs = some (routesOk xs) := by
  have h := spec_RoutesValid_l0 xs hx xs 0 (by omega) (by omega) (by omega) (by simp)
  rw [spec_RoutesValid.fL_eq]
  exact h

/-! #### spec_Plan -/
theorem spec_PlanValid_f (k f s : Int) (key : ByteArray) (fr tt st : Int) : spec_PlanValid.fL k f s key fr tt st = some (planOk k f s key fr tt st) := by
  rw [spec_PlanValid.fL_eq]
  simp only [spec_l1In_f, spec_KeyValid_f, Option.bind_some, decide_eq_true_eq, beq_decI, beq_decL]
  unfold planOk
  by_cases hf : 0 ≤ f ∧ f ≤ 7
  · rw [if_pos hf, decide_eq_true hf, Bool.true_and]
    by_cases k1 : k = 1
    · rw [if_pos k1, if_pos k1]
      cases keyOk (bs key) with
      | false => rfl
      | true =>
        rw [if_pos rfl]
        by_cases a1 : s = 0 <;> by_cases a2 : fr = 0 <;> by_cases a3 : tt = 0 <;> by_cases a4 : st = 0 <;> simp [a1, a2, a3, a4]
    · rw [if_neg k1, if_neg k1]
      by_cases k2 : k = 2
      · rw [if_pos k2, if_pos k2]
        by_cases hs : 0 ≤ s ∧ s ≤ 7
        · rw [if_pos hs]
          by_cases e : s = f
          · rw [if_pos e, decide_eq_false (p := 0 ≤ s ∧ s ≤ 7 ∧ ¬ s = f) (by omega)]; rfl
          · rw [if_neg e, decide_eq_true (p := 0 ≤ s ∧ s ≤ 7 ∧ ¬ s = f) (by omega)]
            by_cases a1 : key.toList = [] <;> by_cases a2 : fr = 0 <;> by_cases a3 : tt = 0 <;> by_cases a4 : st = 0 <;> simp [a1, a2, a3, a4]
        · rw [if_neg hs, decide_eq_false (p := 0 ≤ s ∧ s ≤ 7 ∧ ¬ s = f) (by omega)]; rfl
      · rw [if_neg k2, if_neg k2]
        by_cases k3 : k = 3
        · rw [if_pos k3, if_pos k3]
          by_cases h1 : 0 ≤ fr ∧ fr ≤ 4
          · rw [if_pos h1]
            by_cases h2 : 0 ≤ tt ∧ tt ≤ 4
            · rw [if_pos h2]
              by_cases e : fr = tt
              · rw [if_pos e, decide_eq_false (by omega)]; rfl
              · rw [if_neg e]
                by_cases a4 : 0 ≤ st ∧ st ≤ 1
                · rw [if_pos a4]
                  by_cases a1 : s = 0
                  · rw [if_pos a1, decide_eq_true (p := 0 ≤ fr ∧ _) (by omega)]; rfl
                  · rw [if_neg a1, decide_eq_false (p := 0 ≤ fr ∧ _) (by omega)]; rfl
                · rw [if_neg a4, decide_eq_false (by omega)]; rfl
            · rw [if_neg h2, decide_eq_false (by omega)]; rfl
          · rw [if_neg h1, decide_eq_false (by omega)]; rfl
        · rw [if_neg k3, if_neg k3]
  · rw [if_neg hf, decide_eq_false hf]; rfl

/-! #### spec_Master -/
theorem spec_l27Work_f (k f s : Int) (key : ByteArray) (fr tt st sh : Int) : spec_l27Work.fL k f s key fr tt st sh = some (workOk k f s key fr tt st sh) := by
  rw [spec_l27Work.fL_eq, spec_PlanValid_f, Option.bind_some]
  unfold workOk
  rw [show (k == 0 && (f == 0 && (s == 0 && (key.toList == ([] : List UInt8) && (fr == 0 && (tt == 0 && (st == 0))))))) = workZero k f s key fr tt st from rfl]
  cases workZero k f s key fr tt st with
  | true => simp
  | false =>
    rw [if_neg (by simp)]
    cases planOk k f s key fr tt st with
    | false => simp
    | true =>
      rw [if_pos rfl]
      by_cases a : f < sh
      · rw [if_pos a]; simp [a]
      · rw [if_neg a]; simp [a]
theorem spec_MasterValid_l0 (xs : List S129) (hx : xs.length ≤ 1000000000000) (sh k f s : Int) (key : ByteArray) (fr tt st turn : Int) : ∀ (ys : List S129) (i : Int), 0 ≤ i → i ≤ xs.length → xs.drop i.toNat = ys →
    spec_MasterValid.l0L i xs sh k f s key fr tt st turn = some (ys.all fun r => decide (r.f0 < sh))
  | [], i, h0, h1, hd => by
    have := drop_nil h0 h1 hd
    rw [spec_MasterValid.l0L_eq, if_neg (by omega)]; rfl
  | y :: ys, i, h0, h1, hd => by
    obtain ⟨hr0, hl, hd'⟩ := getD_iv (d := z129) h0 hd
    have hr : rd_T129 xs i = y := hr0
    rw [spec_MasterValid.l0L_eq, if_pos hl, if_pos h0, hr, w64 (by omega) (by omega), spec_MasterValid_l0 xs hx sh k f s key fr tt st turn ys (i + 1) (by omega) (by omega) hd', List.all_cons]
    by_cases e : y.f0 ≥ sh
    · rw [if_pos e, decide_eq_false (by omega)]; rfl
    · rw [if_neg e, decide_eq_true (by omega)]; rfl
theorem spec_MasterValid_f (xs : List S129) (hx : xs.length ≤ 1000000000000) (sh k f s : Int) (key : ByteArray) (fr tt st turn : Int) : spec_MasterValid.fL xs sh k f s key fr tt st turn = some (masterOk xs sh k f s key fr tt st turn) := by
  have jt : spec_MasterValid.j0L true xs sh k f s key fr tt st turn = some false := by rw [spec_MasterValid.j0L_eq, if_pos rfl]
  have jf : spec_MasterValid.j0L false xs sh k f s key fr tt st turn = some (xs.all fun r => decide (r.f0 < sh)) := by rw [spec_MasterValid.j0L_eq, if_neg (by simp), spec_MasterValid_l0 xs hx sh k f s key fr tt st turn xs 0 (by omega) (by omega) (by simp)]
  rw [spec_MasterValid.fL_eq, spec_RoutesValid_f xs hx, Option.bind_some, spec_l1In_f, Option.bind_some, spec_l27Work_f, Option.bind_some, spec_l1In_f, Option.bind_some, jt]
  unfold masterOk
  cases routesOk xs with
  | false => rfl
  | true =>
    cases decide (1 ≤ sh ∧ sh ≤ 8) with
    | false => rfl
    | true =>
      cases workOk k f s key fr tt st sh with
      | false => simp
      | true =>
        cases decide (0 ≤ turn ∧ turn ≤ 999) with
        | false => simp [jt]
        | true => simp [jf]

/-! #### intS -/
theorem set_at {α : Type} {xs : List α} {i : Nat} {y z : α} {ys : List α} (h : xs.drop i = y :: ys) : (xs.set i z).take (i + 1) = xs.take i ++ [z] ∧ (xs.set i z).drop (i + 1) = ys ∧ (xs.set i z).length = xs.length := by
  have h1 : i < xs.length := by
    by_cases e : i < xs.length
    · exact e
    · rw [List.drop_eq_nil_of_le (by omega)] at h; cases h
  rw [List.drop_eq_getElem_cons h1] at h
  injection h with ha hb
  refine ⟨?_, ?_, by simp⟩
  · rw [List.take_succ_eq_append_getElem (by simpa using h1), List.take_set_of_le (by omega)]; simp
  · rw [List.drop_set_of_lt (by omega)]; exact hb
theorem drop_take_cons {α : Type} {xs pre : List α} {i : Nat} {y : α} {ys : List α} (h : xs.drop i = y :: ys) : xs.take (i + 1) = xs.take i ++ [y] ∧ i < xs.length ∧ xs.drop (i + 1) = ys := by
  have h1 : i < xs.length := by
    by_cases e : i < xs.length
    · exact e
    · rw [List.drop_eq_nil_of_le (by omega)] at h; cases h
  rw [List.drop_eq_getElem_cons h1] at h
  injection h with ha hb
  exact ⟨by rw [List.take_succ_eq_append_getElem h1, ha], h1, hb⟩

/-! #### loops -/
theorem getD_drop {α : Type} {xs : List α} {d : α} {i : Int} {y : α} {ys : List α} (h0 : 0 ≤ i) (h : xs.drop i.toNat = y :: ys) : xs.getD i.toNat d = y ∧ i < xs.length ∧ xs.drop (i + 1).toNat = ys := by
  have h1 : i.toNat < xs.length := by
    by_cases e : i.toNat < xs.length
    · exact e
    · rw [List.drop_eq_nil_of_le (by omega)] at h; cases h
  rw [List.drop_eq_getElem_cons h1] at h
  injection h with ha hb
  refine ⟨?_, by omega, ?_⟩
  · rw [List.getD_eq_getElem?_getD, List.getElem?_eq_getElem h1]; exact ha
  · rw [show (i + 1).toNat = i.toNat + 1 by omega]; exact hb
/-- A copy, element by element, into a list of the same length. -/
theorem copy_loop {α : Type} (ys : List α) (d : α) (n : Nat) (hn : n = ys.length) (L : List α → Int → Option (List α))
    (hL : ∀ (zs : List α) (i : Int), 0 ≤ i → i ≤ n → zs.length = n → L zs i = if i < (n : Int) then L (zs.set i.toNat (ys.getD i.toNat d)) (i + 1) else some zs) :
    ∀ (ws zs : List α) (i : Int), 0 ≤ i → i ≤ n → ys.drop i.toNat = ws → zs.length = n → zs.take i.toNat = ys.take i.toNat → L zs i = some ys
  | [], zs, i, h0, h1, hd, hl, ht => by
    have := drop_nil h0 (by omega) hd
    rw [hL zs i h0 h1 hl, if_neg (by omega)]
    rw [List.take_of_length_le (by omega), List.take_of_length_le (by omega)] at ht
    rw [ht]
  | w :: ws, zs, i, h0, h1, hd, hl, ht => by
    obtain ⟨hr, hlt, hd'⟩ := getD_drop (d := d) h0 hd
    obtain ⟨t1, _, _⟩ := drop_take_cons (pre := ys) hd
    have hz : zs.drop i.toNat = zs[i.toNat]'(by omega) :: zs.drop (i.toNat + 1) := List.drop_eq_getElem_cons (by omega)
    obtain ⟨s1, s2, s3⟩ := set_at (z := w) hz
    rw [hL zs i h0 h1 hl, if_pos (by omega), hr]
    exact copy_loop ys d n hn L hL ws _ (i + 1) (by omega) (by omega) hd' (by omega) (by rw [show (i + 1).toNat = i.toNat + 1 by omega, s1, t1, ht])
/-- A comparison, element by element, of lists of the same length. -/
theorem eq_loop {α : Type} [DecidableEq α] (xs zs : List α) (d : α) (hl : xs.length = zs.length) (L : Int → Option Bool)
    (hL : ∀ i : Int, 0 ≤ i → i ≤ xs.length → L i = if i < (xs.length : Int) then (if xs.getD i.toNat d = zs.getD i.toNat d then L (i + 1) else some false) else some true) :
    ∀ (ys ws : List α) (i : Int), 0 ≤ i → i ≤ xs.length → xs.drop i.toNat = ys → zs.drop i.toNat = ws → L i = some (decide (ys = ws))
  | [], ws, i, h0, h1, hd, hw => by
    have := drop_nil h0 h1 hd
    rw [hL i h0 h1, if_neg (by omega)]
    rw [List.drop_eq_nil_of_le (by omega)] at hw
    rw [← hw]; rfl
  | y :: ys, [], i, h0, h1, hd, hw => by
    have := drop_nil h0 (by omega) hw
    obtain ⟨hr, hlt, hd'⟩ := getD_drop (d := d) h0 hd
    omega
  | y :: ys, w :: ws, i, h0, h1, hd, hw => by
    obtain ⟨hr, hlt, hd'⟩ := getD_drop (d := d) h0 hd
    obtain ⟨hr2, hlt2, hw'⟩ := getD_drop (d := d) h0 hw
    rw [hL i h0 h1, if_pos hlt, hr, hr2]
    by_cases e : y = w
    · rw [if_pos e, eq_loop xs zs d hl L hL ys ws (i + 1) (by omega) (by omega) hd' hw']
      simp [e]
    · rw [if_neg e]; simp [e]
theorem eq_loop0 {α : Type} [DecidableEq α] (xs zs : List α) (d : α) (hl : xs.length = zs.length) (L : Int → Option Bool)
    (hL : ∀ i : Int, 0 ≤ i → i ≤ xs.length → L i = if i < (xs.length : Int) then (if xs.getD i.toNat d = zs.getD i.toNat d then L (i + 1) else some false) else some true) : L 0 = some (decide (xs = zs)) :=
  eq_loop xs zs d hl L hL xs zs 0 (by omega) (by omega) (by simp) (by simp)
theorem copy_loop0 {α : Type} (ys zs : List α) (d : α) (n : Nat) (hn : n = ys.length) (hz : zs.length = n) (L : List α → Int → Option (List α))
    (hL : ∀ (zs : List α) (i : Int), 0 ≤ i → i ≤ n → zs.length = n → L zs i = if i < (n : Int) then L (zs.set i.toNat (ys.getD i.toNat d)) (i + 1) else some zs) : L zs 0 = some ys :=
  copy_loop ys d n hn L hL ys zs 0 (by omega) (by omega) (by simp) hz (by simp)
/-- Marks: an element for each number, c numbers an element. -/
def marks {α : Type} (el : Int → α) (c : Int) : Nat → Int → List α
  | 0, _ => []
  | n + 1, k => el k :: marks el c n (k + c)
theorem marks_length {α : Type} (el : Int → α) (c : Int) : ∀ (n : Nat) (k : Int), (marks el c n k).length = n
  | 0, _ => rfl
  | n + 1, k => by simp [marks, marks_length el c n]
theorem mark_loop {α : Type} (el : Int → α) (c : Int) (hc : 0 ≤ c) (hc2 : c ≤ 1000) (n : Nat) (hn : n ≤ 1000000000) (L : List α → Int → Int → Option (Int × List α))
    (hL : ∀ (zs : List α) (k i : Int), 0 ≤ i → i ≤ n → zs.length = n → 0 ≤ k → k ≤ 100000000000 + 1000 * n → L zs k i = if i < (n : Int) then L (zs.set i.toNat (el k)) (k + c) (i + 1) else some (k, zs)) :
    ∀ (ys zs : List α) (k i : Int), 0 ≤ i → i ≤ n → zs.length = n → zs.drop i.toNat = ys → 0 ≤ k → k ≤ 100000000000 + 1000 * i → L zs k i = some (k + c * ys.length, zs.take i.toNat ++ marks el c ys.length k)
  | [], zs, k, i, h0, h1, hl, hd, hk, hk2 => by
    have := drop_nil h0 (by omega) hd
    rw [hL zs k i h0 h1 hl hk (by omega), if_neg (by omega), List.take_of_length_le (by omega)]; simp [marks]
  | y :: ys, zs, k, i, h0, h1, hl, hd, hk, hk2 => by
    obtain ⟨hr, hlt, hd'⟩ := getD_drop (d := y) h0 hd
    obtain ⟨s1, s2, s3⟩ := set_at (z := el k) hd
    rw [hL zs k i h0 h1 hl hk (by omega), if_pos (by omega),
      mark_loop el c hc hc2 n hn L hL ys _ (k + c) (i + 1) (by omega) (by omega) (by omega) (by rw [show (i + 1).toNat = i.toNat + 1 by omega]; exact s2) (by omega) (by omega),
      show (i + 1).toNat = i.toNat + 1 by omega, s1]
    simp only [List.length_cons, marks, List.append_assoc, List.singleton_append]
    congr 2
    rw [show ((ys.length + 1 : Nat) : Int) = (ys.length : Int) + 1 by omega, Int.mul_add]
    omega
theorem mark_loop0 {α : Type} (el : Int → α) (c : Int) (hc : 0 ≤ c) (hc2 : c ≤ 1000) (zs : List α) (hn : zs.length ≤ 1000000000) (k : Int) (hk : 0 ≤ k) (hk2 : k ≤ 100000000000) (L : List α → Int → Int → Option (Int × List α))
    (hL : ∀ (ws : List α) (k i : Int), 0 ≤ i → i ≤ zs.length → ws.length = zs.length → 0 ≤ k → k ≤ 100000000000 + 1000 * zs.length → L ws k i = if i < (zs.length : Int) then L (ws.set i.toNat (el k)) (k + c) (i + 1) else some (k, ws)) :
    L zs k 0 = some (k + c * zs.length, marks el c zs.length k) := by
  have := mark_loop el c hc hc2 zs.length hn L hL zs zs k 0 (by omega) (by omega) rfl (by simp) hk (by omega)
  simpa using this
theorem held_loop {α : Type} (el : Int → α) (d : α) (c : Int) (hc : 0 ≤ c) (hc2 : c ≤ 1000) (zs : List α) (hn : zs.length ≤ 1000000000) (L : Int → Int → Option Int)
    (hL : ∀ k i : Int, 0 ≤ i → i ≤ zs.length → 0 ≤ k → k ≤ 100000000000 + 1000 * zs.length → (i < zs.length → zs.getD i.toNat d = el k) → L k i = if i < (zs.length : Int) then L (k + c) (i + 1) else some k) :
    ∀ (n : Nat) (k i : Int), 0 ≤ i → i ≤ zs.length → zs.drop i.toNat = marks el c n k → 0 ≤ k → k ≤ 100000000000 + 1000 * i → L k i = some (k + c * n)
  | 0, k, i, h0, h1, hd, hk, hk2 => by
    have := drop_nil h0 h1 hd
    rw [hL k i h0 h1 hk (by omega) (fun h => by omega), if_neg (by omega)]; simp
  | n + 1, k, i, h0, h1, hd, hk, hk2 => by
    obtain ⟨hr, hlt, hd'⟩ := getD_drop (d := d) h0 hd
    rw [hL k i h0 h1 hk (by omega) (fun _ => hr), if_pos hlt, held_loop el d c hc hc2 zs hn L hL n (k + c) (i + 1) (by omega) (by omega) hd' (by omega) (by omega)]
    congr 1
    rw [show ((n + 1 : Nat) : Int) = (n : Int) + 1 by omega, Int.mul_add]
    omega
theorem held_loop0 {α : Type} (el : Int → α) (d : α) (c : Int) (hc : 0 ≤ c) (hc2 : c ≤ 1000) (n : Nat) (hn : n ≤ 1000000000) (k : Int) (hk : 0 ≤ k) (hk2 : k ≤ 100000000000) (L : Int → Int → Option Int)
    (hL : ∀ k' i : Int, 0 ≤ i → i ≤ n → 0 ≤ k' → k' ≤ 100000000000 + 1000 * n → (i < n → (marks el c n k).getD i.toNat d = el k') → L k' i = if i < (n : Int) then L (k' + c) (i + 1) else some k') :
    L k 0 = some (k + c * n) := by
  have hm := marks_length el c n k
  refine held_loop el d c hc hc2 (marks el c n k) (by omega) L (fun k' i => ?_) n k 0 (by omega) (by omega) (by simp) hk (by omega)
  rw [hm]
  exact hL k' i

/-! #### refl_loop -/
theorem refl_loop (n : Nat) (L : Int → Option Bool) (hL : ∀ i : Int, 0 ≤ i → i ≤ n → L i = if i < (n : Int) then L (i + 1) else some true) : ∀ (m : Nat) (i : Int), i + m = n → 0 ≤ i → L i = some true
  | 0, i, h, h0 => by rw [hL i h0 (by omega), if_neg (by omega)]
  | m + 1, i, h, h0 => by rw [hL i h0 (by omega), if_pos (by omega)]; exact refl_loop n L hL m (i + 1) (by omega) (by omega)
theorem refl_loop0 (n : Nat) (L : Int → Option Bool) (hL : ∀ i : Int, 0 ≤ i → i ≤ n → L i = if i < (n : Int) then L (i + 1) else some true) : L 0 = some true := refl_loop n L hL n 0 (by omega) (by omega)

/-! #### masterS -/
theorem eqInterval_refl (a b : ByteArray) : laws_eqInterval.f a b a b = some true := by unfold laws_eqInterval.f; simp
theorem eqRoute_refl (a : Int) (b c : ByteArray) : laws_eqRoute.f a b c a b c = some true := by unfold laws_eqRoute.f; simp [eqInterval_refl]
theorem eqRouteS_refl (xs : List S129) (hx : xs.length ≤ 1000000000000) : laws_eqRouteS.fL xs xs = some true := by
  rw [laws_eqRouteS.fL_eq, if_pos rfl]
  refine refl_loop0 xs.length (fun i => laws_eqRouteS.l0L xs xs i) (fun i h0 h1 => ?_)
  rw [laws_eqRouteS.l0L_eq]
  by_cases h : i < (xs.length : Int)
  · rw [if_pos h, if_pos h0, if_pos h, eqRoute_refl, Option.bind_some, if_pos rfl, w64 (by omega) (by omega), if_pos h]
  · rw [if_neg h, if_neg h]
theorem eqPlan_refl (a b c : Int) (d : ByteArray) (e f g : Int) : laws_eqPlan.f a b c d e f g a b c d e f g = some true := by unfold laws_eqPlan.f; simp
theorem eqMaster_refl (xs : List S129) (hx : xs.length ≤ 1000000000000) (sh a b c : Int) (d : ByteArray) (e f g t : Int) : laws_eqMaster.fL xs sh a b c d e f g t xs sh a b c d e f g t = some true := by
  rw [laws_eqMaster.fL_eq, eqRouteS_refl xs hx, eqPlan_refl]; simp
def cvRoute (x : S162) : S129 := ⟨x.f0, ⟨x.f1.f0, x.f1.f1⟩⟩
theorem getD_mapM {α β : Type} (f : α → β) (xs : List α) (i : Nat) (d : α) (e : β) (h : i < xs.length) : (xs.map f).getD i e = f (xs.getD i d) := by
  simp [List.getD_eq_getElem?_getD, List.getElem?_eq_getElem h]
theorem toRouteS_f (xs : List S162) (hx : xs.length ≤ 1048576) : laws_toRouteS.fL xs = some (xs.map cvRoute) := by
  rw [laws_toRouteS.fL_eq, if_pos (by omega), if_pos (by omega)]
  refine copy_loop0 (xs.map cvRoute) _ z129 xs.length (by simp) (by simp) (fun zs i => laws_toRouteS.l0L xs zs i) (fun zs i h0 h1 hl => ?_)
  rw [laws_toRouteS.l0L_eq]
  unfold laws_toRoute.f laws_toInterval.f
  by_cases h : i < (xs.length : Int)
  · rw [if_pos h, if_pos h0, Option.bind_some, Option.bind_some, if_pos (by omega), w64 (by omega) (by omega), if_pos h, getD_mapM cvRoute xs i.toNat z162 _ (by omega)]; rfl
  · rw [if_neg h, if_neg h]
theorem toMaster_f (xs : List S162) (hx : xs.length ≤ 1048576) (sh a b c : Int) (d : ByteArray) (e f g t : Int) : laws_toMaster.fL xs sh a b c d e f g t = some (xs.map cvRoute, sh, a, b, c, d, e, f, g, t) := by
  rw [laws_toMaster.fL_eq, toRouteS_f xs hx]
  unfold laws_toPlan.f
  rfl
theorem szRoute_f (x : S162) (k : Int) (hs : x.f1.f0.size ≤ 9223372036854775807) (hs2 : x.f1.f1.size ≤ 9223372036854775807) (h0 : 0 ≤ k) (h1 : k ≤ 1048576) : ∃ r, laws_szRoute.f x.f0 x.f1.f0 x.f1.f1 k = some r ∧ -1 ≤ r ∧ r ≤ k := by
  unfold laws_szRoute.f laws_szInterval.f
  rw [w64 (n := k - (x.f1.f0.size : Int)) (by omega) (by omega)]
  by_cases h : k - (x.f1.f0.size : Int) < 0
  · rw [if_pos h, Option.bind_some, if_pos (by omega)]; exact ⟨_, rfl, by omega, by omega⟩
  · rw [if_neg h, w64 (by omega) (by omega)]
    by_cases h2 : k - (x.f1.f0.size : Int) - (x.f1.f1.size : Int) < 0
    · rw [if_pos h2, Option.bind_some, if_pos (by omega)]; exact ⟨_, rfl, by omega, by omega⟩
    · rw [if_neg h2, Option.bind_some, if_neg (by omega)]; exact ⟨_, rfl, by omega, by omega⟩
theorem szRouteS_l0 (xs : List S162) (hx : xs.length ≤ 1048576) (hB : ∀ x ∈ xs, x.f1.f0.size ≤ 9223372036854775807 ∧ x.f1.f1.size ≤ 9223372036854775807) : ∀ (n : Nat) (i k : Int), i + n = xs.length → 0 ≤ i → 0 ≤ k → k ≤ 1048576 → ∃ r, laws_szRouteS.l0L xs k i = some r ∧ -1 ≤ r ∧ r ≤ k
  | 0, i, k, hi, h0, h1, h2 => by rw [laws_szRouteS.l0L_eq, if_neg (by omega)]; exact ⟨_, rfl, by omega, by omega⟩
  | n + 1, i, k, hi, h0, h1, h2 => by
    have hm : rd_T162 xs i ∈ xs := by
      unfold rd_T162
      rw [List.getD_eq_getElem?_getD, List.getElem?_eq_getElem (show i.toNat < xs.length by omega)]
      exact List.getElem_mem _
    obtain ⟨r, hr, r0, r1⟩ := szRoute_f (rd_T162 xs i) k (hB _ hm).1 (hB _ hm).2 h1 h2
    rw [laws_szRouteS.l0L_eq, if_pos (by omega), if_pos h0, hr, Option.bind_some, w64 (by omega) (by omega)]
    by_cases h : r < 0
    · rw [if_pos h]; exact ⟨_, rfl, by omega, by omega⟩
    · rw [if_neg h]
      obtain ⟨q, hq, hq1, hq2⟩ := szRouteS_l0 xs hx hB n (i + 1) r (by omega) (by omega) (by omega) (by omega)
      exact ⟨q, hq, by omega, by omega⟩
theorem szRouteS_f (xs : List S162) (k : Int) (h0 : 0 ≤ k) (h1 : k ≤ 1048576) (hl : xs.length ≤ 9223372036854775807) (hB : ∀ x ∈ xs, x.f1.f0.size ≤ 9223372036854775807 ∧ x.f1.f1.size ≤ 9223372036854775807) : ∃ r, laws_szRouteS.fL xs k = some r ∧ -1 ≤ r ∧ r ≤ k ∧ (r < 0 ∨ xs.length ≤ 1048576) := by
  rw [laws_szRouteS.fL_eq, w64 (by omega) (by omega)]
  by_cases h : k - (xs.length : Int) < 0
  · rw [if_pos h]; exact ⟨_, rfl, by omega, by omega, .inl (by omega)⟩
  · rw [if_neg h]
    obtain ⟨r, hr, r0, r1⟩ := szRouteS_l0 xs (by omega) hB xs.length 0 (k - xs.length) (by omega) (by omega) (by omega) (by omega)
    exact ⟨r, hr, by omega, by omega, .inr (by omega)⟩
theorem szMaster_f (xs : List S162) (sh a b c : Int) (d : ByteArray) (e f g t k : Int) (h0 : 0 ≤ k) (h1 : k ≤ 1048576) (hd : d.size ≤ 9223372036854775807) (hl : xs.length ≤ 9223372036854775807) (hB : ∀ x ∈ xs, x.f1.f0.size ≤ 9223372036854775807 ∧ x.f1.f1.size ≤ 9223372036854775807) : ∃ r, laws_szMaster.fL xs sh a b c d e f g t k = some r ∧ (r < 0 ∨ xs.length ≤ 1048576) := by
  obtain ⟨r, hr, r0, r1, hs⟩ := szRouteS_f xs k h0 h1 hl hB
  rw [laws_szMaster.fL_eq, hr, Option.bind_some]
  by_cases h : r < 0
  · rw [if_pos h]; exact ⟨_, rfl, .inl (by omega)⟩
  · have hs : xs.length ≤ 1048576 := by omega
    rw [if_neg h]
    unfold laws_szPlan.f
    rw [w64 (by omega) (by omega)]
    by_cases h2 : r - (d.size : Int) < 0
    · rw [if_pos h2, Option.bind_some, if_pos (by omega)]; exact ⟨_, rfl, .inl (by omega)⟩
    · rw [if_neg h2, Option.bind_some, if_neg (by omega)]; exact ⟨_, rfl, .inr hs⟩

end Go.Proofs.Ytkejaolfbejokaa.Pure
