/- Lemmas for FnExactRoutesText: what each function comes to. No condition. -/
import Derived.Test.YtcciackemicbbaaDoorLFnExactRoutesText
namespace Go.Proofs.YtcciackemicbbaaDoor.Pure
open Go.RowKit Go.Proofs.YtcciackemicbbaaDoor.PFnExactRoutesText Go.Proofs.YtcciackemicbbaaDoorW.PrintWords Go.Proofs.YtcciackemicbbaaDoorW.PrintLast Go.Proofs.YtcciackemicbbaaDoorW.PrintMore Go.Proofs.YtcciackemicbbaaDoor.Lim
set_option linter.unusedVariables false
set_option linter.unusedSimpArgs false

/-! #### basic -/
theorem w64 {n : Int} (h1 : -9223372036854775808 ≤ n) (h2 : n ≤ 9223372036854775807) : wrap64 n = n := by unfold wrap64; omega
theorem rd_drop {xs : List Int} {i : Int} {y : Int} {ys : List Int} (h0 : 0 ≤ i) (h : xs.drop i.toNat = y :: ys) : rd xs i = y ∧ i < xs.length ∧ xs.drop (i + 1).toNat = ys := by
 have h1 : i.toNat < xs.length := by
  by_cases e : i.toNat < xs.length
  ·exact e
  ·rw [List.drop_eq_nil_of_le (by omega)] at h; cases h
 rw [List.drop_eq_getElem_cons h1] at h
 injection h with ha hb
 refine ⟨?_, by omega, ?_⟩
 ·unfold rd; rw [List.getD_eq_getElem?_getD, List.getElem?_eq_getElem h1]; exact ha
 ·rw [show (i + 1).toNat = i.toNat + 1 by omega]; exact hb
theorem drop_nil {α : Type} {xs : List α} {i : Int} (h0 : 0 ≤ i) (hi : i ≤ xs.length) (h : xs.drop i.toNat = []) : i = xs.length := by
 have := congrArg List.length h
 simp at this
 omega
/-! #### bytes -/
/-- A string's bytes as numbers. -/
def bs (s : ByteArray) : List Int := s.data.toList.map fun b => (b.toNat : Int)
theorem bs_length (s : ByteArray) : (bs s).length = s.size := by simp [bs]
theorem bt_bs (s : ByteArray) (i : Int) : bt s i = rd (bs s) i := by
 unfold bt rd bs
 rw [List.getD_eq_getElem?_getD, List.getElem?_map]
 by_cases h : i.toNat < s.size
 ·rw [dif_pos h, List.getElem?_eq_getElem (by simpa using h)]; simp; rfl
 ·rw [dif_neg h, List.getElem?_eq_none (by simpa using h)]; rfl
theorem toList_loop (s : ByteArray) (i : Nat) (r : List UInt8) : ByteArray.toList.loop s i r = r.reverse ++ s.data.toList.drop i := by
 unfold ByteArray.toList.loop
 split
 next h =>
  rw [toList_loop s (i + 1) (s.get! i :: r)]
  have h' : i < s.data.toList.length := by simpa using h
  rw [List.drop_eq_getElem_cons h']
  have : s.get! i = s.data.toList[i] := by
   show s.data[i]! = _
   rw [getElem!_pos s.data i (by simpa using h)]; simp
  rw [this]; simp
 next h =>
  rw [List.drop_eq_nil_of_le (by simpa using h)]; simp
 termination_by s.size - i
theorem toList_data (s : ByteArray) : s.toList = s.data.toList := by
 unfold ByteArray.toList; rw [toList_loop]; simp
theorem toList_nil (s : ByteArray) : s.toList = [] ↔ bs s = [] := by rw [toList_data]; simp [bs]
theorem bs_drop (s : ByteArray) (i j : Nat) (hj : s.size ≤ j) : bs (s.extract i j) = (bs s).drop i := by
 unfold bs
 rw [ByteArray.data_extract, ← List.map_drop]
 congr 1
 rw [Array.toList_extract]
 have : s.data.toList.length = s.size := by simp
 simp only [List.extract]
 rw [List.take_of_length_le (by rw [List.length_drop]; omega)]
/-! #### l7Text -/
theorem dig_of (a : Nat) (h1 : a ≤ 1000000) : strOfNums ([(wrap64 (48 + (Int.tmod (a : Int) 10))) % 256] : List Int) = ⟨#[UInt8.ofNat (48 + a % 10)]⟩ := by
 have : ((wrap64 (48 + Int.tmod (a : Int) 10)) % 256).toNat = 48 + a % 10 := by
  rw [Int.tmod_eq_emod_of_nonneg (by omega), w64 (by omega) (by omega)]; omega
 unfold strOfNums
 rw [List.map_cons, List.map_nil, this]
theorem l7_loop (a : Nat) : ∀ (b : ByteArray), a + b.size ≤ 1000000 → spec_l7Text.l0L (a : Int) b = some ⟨((if a < 10 then [] else Lib.decDigits (a / 10)) ++ b.data.toList).toArray⟩ := by
 induction a using Nat.strongRecOn with
 | _ a ih =>
  intro b h
  rw [spec_l7Text.l0L_eq]
  by_cases h9 : a < 10
  ·rw [if_neg (by omega), if_pos h9, List.nil_append]
  ·have e1 : wrap64 (Int.tdiv (a : Int) 10) = ((a / 10 : Nat) : Int) := by
    rw [Int.tdiv_eq_ediv_of_nonneg (by omega), w64 (by omega) (by omega)]; omega
   have hs : ((⟨#[UInt8.ofNat (48 + a / 10 % 10)]⟩ : ByteArray) ++ b).size = b.size + 1 := by rw [ByteArray.size_append]; show 1 + b.size = _; omega
   have hd : ((⟨#[UInt8.ofNat (48 + a / 10 % 10)]⟩ : ByteArray) ++ b).data.toList = UInt8.ofNat (48 + a / 10 % 10) :: b.data.toList := by simp
   rw [if_pos (by omega), e1, Option.bind_some, dig_of _ (by omega), if_pos (show (⟨#[UInt8.ofNat (48 + a / 10 % 10)]⟩ : ByteArray).size + b.size ≤ 9223372036854775807 by show 1 + b.size ≤ _; omega), ih (a / 10) (by omega) _ (by omega), if_neg h9, hd]
   by_cases h2 : a / 10 < 10
   ·rw [if_pos h2, Lib.decDigits, dif_pos h2, Nat.mod_eq_of_lt h2]; rfl
   ·rw [if_neg h2, Lib.decDigits.eq_1 (a / 10), dif_neg h2, List.append_assoc]; rfl
theorem spec_l7Text_f (n : Int) (h0 : 0 ≤ n) (h1 : n ≤ 100000) : spec_l7Text.fL n = some ⟨(Lib.itoa n).toArray⟩ := by
 obtain ⟨a, rfl⟩ := Int.eq_ofNat_of_zero_le h0
 have hs : (⟨#[UInt8.ofNat (48 + a % 10)]⟩ : ByteArray).size = 1 := rfl
 have e : Lib.itoa (a : Int) = Lib.decDigits a := by unfold Lib.itoa; rw [if_neg (by omega)]; simp
 rw [spec_l7Text.fL_eq, if_neg (by omega), dig_of _ (by omega), l7_loop a _ (by omega), e, Lib.decDigits.eq_1 a]
 by_cases h2 : a < 10
 ·rw [if_pos h2, dif_pos h2, Nat.mod_eq_of_lt h2]; rfl
 ·rw [if_neg h2, dif_neg h2]
theorem decDigits_len (u : Nat) : (Lib.decDigits u).length ≤ u + 1 := by
 induction u using Nat.strongRecOn with
 | _ u ih =>
  rw [Lib.decDigits]
  by_cases h : u < 10
  ·rw [dif_pos h]; simp
  ·have := ih (u / 10) (by omega)
   rw [dif_neg h, List.length_append]
   simp only [List.length_cons, List.length_nil]
   omega
theorem itoa_len {n : Int} (h0 : 0 ≤ n) (h1 : n ≤ 999) : (Lib.itoa n).length ≤ 1000 := by
 unfold Lib.itoa
 rw [if_neg (by omega)]
 have := decDigits_len n.toNat
 omega
theorem strconv_Itoa_e {n : Int} (h0 : 0 ≤ n) (h1 : n ≤ 100000) : strconv_Itoa.f n = some ⟨(Lib.itoa n).toArray⟩ := by
 unfold strconv_Itoa.f
 rw [if_pos ⟨by omega, by omega⟩]
theorem joinTail_len : ∀ (l : List (List UInt8)) (m : Nat), (∀ x ∈ l, x.length ≤ m) → (Lib.joinTail [32] l).length ≤ (m + 1) * l.length
 | [], m, _ => by simp [Lib.joinTail]
 | x :: l, m, h => by
  have h1 := h x List.mem_cons_self
  have h2 := joinTail_len l m (fun y hy => h y (List.mem_cons_of_mem _ hy))
  have e : Lib.joinTail [32] (x :: l) = 32 :: x ++ Lib.joinTail [32] l := by simp [Lib.joinTail]
  rw [e, List.length_append, List.length_cons, List.length_cons, Nat.mul_add, Nat.mul_one]
  omega
theorem join_len (l : List (List UInt8)) (m : Nat) (h : ∀ x ∈ l, x.length ≤ m) : (Lib.join l [32]).length ≤ (m + 1) * l.length := by
 cases l with
 | nil => simp [Lib.join_nil]
 | cons x l =>
  have h1 := h x List.mem_cons_self
  have h2 := joinTail_len l m (fun y hy => h y (List.mem_cons_of_mem _ hy))
  rw [Lib.join_cons, List.length_append, List.length_cons, Nat.mul_add, Nat.mul_one]
  omega
theorem strings_Join_e (l : List ByteArray) (m : Nat) (hl : l.length ≤ 1000000) (hm : m ≤ 1000000) (h : ∀ x ∈ l, x.size ≤ m) : strings_Join.f l (⟨#[32]⟩ : ByteArray) = some ⟨(Lib.join (l.map (·.data.toList)) [32]).toArray⟩ := by
 have hj := join_len (l.map (·.data.toList)) m (fun x hx => by
  obtain ⟨y, hy, rfl⟩ := List.mem_map.1 hx
  have := h y hy
  simpa using this)
 rw [List.length_map] at hj
 have hb : (m + 1) * l.length ≤ 1000001 * 1000000 := Nat.mul_le_mul (by omega) hl
 unfold strings_Join.f
 rw [if_pos ⟨by omega, by show (Lib.join (l.map (·.data.toList)) [32]).length ≤ _; omega⟩]

/-! #### keys -/
def letters (l : List Int) : Bool := l.all fun b => decide (97 ≤ b ∧ b ≤ 122)
/-- KeyValid, over the bytes. -/
def keyOk (l : List Int) : Bool := decide (1 ≤ l.length ∧ l.length ≤ 4) && letters l
theorem rd_zero {l : List Int} {b : Int} {t : List Int} (h : l = b :: t) : rd l 0 = b := by subst h; rfl
theorem impl_lettersOnly_f : ∀ (l : List Int) (s : ByteArray), bs s = l → impl_lettersOnly.fL s = some (letters l)
 | [], s, h => by rw [impl_lettersOnly.fL_eq, if_pos ((toList_nil s).2 h)]; rfl
 | b :: l, s, h => by
  have hs : s.size = l.length + 1 := by rw [← bs_length, h]; rfl
  have hn : ¬ s.toList = [] := by rw [toList_nil, h]; simp
  have hd : bs (s.extract 1 s.size) = l := by rw [bs_drop s 1 s.size (Nat.le_refl _), h]; rfl
  rw [impl_lettersOnly.fL_eq, if_neg hn, if_pos (by omega), bt_bs, rd_zero h, if_pos (by omega : (1 : Int) ≤ (s.size : Int)), impl_lettersOnly_f l _ hd, Option.bind_some]
  unfold letters
  rw [List.all_cons]
  by_cases h1 : b ≥ 97
  ·rw [if_pos h1]
   by_cases h2 : b ≤ 122
   ·rw [if_pos h2, show decide (97 ≤ b ∧ b ≤ 122) = true from decide_eq_true ⟨h1, h2⟩]; rfl
   ·rw [if_neg h2, show decide (97 ≤ b ∧ b ≤ 122) = false from decide_eq_false (by omega)]; rfl
  ·rw [if_neg h1, show decide (97 ≤ b ∧ b ≤ 122) = false from decide_eq_false (by omega)]; rfl
theorem impl_KeyValid_f (s : ByteArray) : impl_KeyValid.fL s = some (keyOk (bs s)) := by
 rw [impl_KeyValid.fL_eq, impl_lettersOnly_f _ s rfl, Option.bind_some]
 unfold keyOk
 rw [bs_length]
 by_cases h1 : (s.size : Int) < 1
 ·rw [if_pos h1, decide_eq_false (by omega)]; rfl
 ·rw [if_neg h1]
  by_cases h2 : (s.size : Int) > 4
  ·rw [if_pos h2, decide_eq_false (by omega)]; rfl
  ·rw [if_neg h2, decide_eq_true (by omega)]; rfl
theorem keyOk_len {l : List Int} (h : keyOk l = true) : 1 ≤ l.length ∧ l.length ≤ 4 := by
 simp only [keyOk, Bool.and_eq_true, decide_eq_true_eq] at h; exact h.1
theorem keyOk_letters {l : List Int} (h : keyOk l = true) : letters l = true := by
 simp only [keyOk, Bool.and_eq_true, decide_eq_true_eq] at h; exact h.2
theorem letters_cons {b : Int} {l : List Int} (h : letters (b :: l) = true) : (97 ≤ b ∧ b ≤ 122) ∧ letters l = true := by
 simp only [letters, List.all_cons, Bool.and_eq_true, decide_eq_true_eq] at h
 exact ⟨h.1, by simp only [letters]; exact h.2⟩

/-! #### ivOk -/
/-- The least key of an interval with this lower bound. -/
def low (lo : ByteArray) : ByteArray := if lo.toList = [] then (⟨#[97]⟩ : ByteArray) else lo
def ivOk (lo hi : ByteArray) : Bool :=
 (decide (lo.toList = []) || keyOk (bs lo)) && (decide (hi.toList = []) || keyOk (bs hi)) && (decide (hi.toList = []) || Op.bytesLess (low lo).toList hi.toList)
def joinOk (a b c d : ByteArray) : Bool := ivOk a b && ivOk c d && !decide (b.toList = []) && decide (b.toList = c.toList)

/-! #### ivimpl -/
theorem impl_lowestKey_f (lo hi : ByteArray) : impl_lowestKey.f lo hi = some (low lo) := by
 unfold impl_lowestKey.f low
 split <;> rfl
theorem impl_IntervalValid_f (lo hi : ByteArray) : impl_IntervalValid.fL lo hi = some (ivOk lo hi) := by
 rw [impl_IntervalValid.fL_eq, impl_KeyValid_f, impl_KeyValid_f, impl_lowestKey_f]
 simp only [Option.bind_some]
 unfold ivOk
 by_cases h1 : lo.toList = []
 ·rw [if_pos h1, decide_eq_true h1]
  by_cases h2 : hi.toList = []
  ·rw [if_pos h2, decide_eq_true h2]; rfl
  ·rw [if_neg h2, decide_eq_false h2]
   cases keyOk (bs hi) <;> simp
 ·rw [if_neg h1, decide_eq_false h1]
  by_cases h2 : hi.toList = []
  ·rw [if_pos h2, decide_eq_true h2]
   cases keyOk (bs lo) <;> simp
  ·rw [if_neg h2, decide_eq_false h2]
   cases keyOk (bs lo) <;> cases keyOk (bs hi) <;> simp

/-! #### Interval -/
theorem impl_IntervalJoin_f (a b c d : ByteArray) : impl_IntervalJoin.fL a b c d = some (if joinOk a b c d = true then (a, d, true) else ((⟨#[]⟩ : ByteArray), (⟨#[]⟩ : ByteArray), false)) := by
 rw [impl_IntervalJoin.fL_eq, impl_IntervalValid_f, impl_IntervalValid_f]
 simp only [Option.bind_some]
 unfold joinOk
 cases ivOk a b with
 | false => simp
 | true =>
  cases ivOk c d with
  | false => simp
  | true =>
   by_cases h1 : b.toList = []
   ·rw [decide_eq_true h1]; simp [h1]
   ·rw [decide_eq_false h1]
    by_cases h2 : b.toList = c.toList
    ·rw [decide_eq_true h2]
     rw [if_pos rfl, if_pos rfl, if_neg h1, if_pos h2]; simp
    ·rw [decide_eq_false h2]
     rw [if_pos rfl, if_pos rfl, if_neg h1, if_neg h2]; simp

/-! #### Partition -/
/-- Each one begins where the one before it ends. -/
def chainFrom : S42 → List S42 → Bool
 | _, [] => true
 | p, y :: ys => joinOk p.f0 p.f1 y.f0 y.f1 && chainFrom y ys
def partOk (l : List S42) : Bool :=
 match l with
 | [] => false
 | v :: vs => decide (l.length ≤ 6) && ivOk v.f0 v.f1 && decide (v.f0.toList = []) && decide ((rd_T42 l ((l.length : Int) - 1)).f1.toList = []) && chainFrom v vs
theorem getD_iv {α : Type} {xs : List α} {d : α} {i : Int} {y : α} {ys : List α} (h0 : 0 ≤ i) (h : xs.drop i.toNat = y :: ys) : xs.getD i.toNat d = y ∧ i < xs.length ∧ xs.drop (i + 1).toNat = ys := by
 have h1 : i.toNat < xs.length := by
  by_cases e : i.toNat < xs.length
  ·exact e
  ·rw [List.drop_eq_nil_of_le (by omega)] at h; cases h
 rw [List.drop_eq_getElem_cons h1] at h
 injection h with ha hb
 refine ⟨?_, by omega, ?_⟩
 ·rw [List.getD_eq_getElem?_getD, List.getElem?_eq_getElem h1]; exact ha
 ·rw [show (i + 1).toNat = i.toNat + 1 by omega]; exact hb
theorem bne_nilB (l : List UInt8) : (l != []) = !decide (l = []) := by cases l <;> simp
theorem joinOk_right {a b c d : ByteArray} (h : ivOk c d = false) : joinOk a b c d = false := by
 unfold joinOk; rw [h]; simp
theorem impl_PartitionValid_l0 (xs : List S42) (hx : xs.length ≤ 6) : ∀ (ys : List S42) (i : Int), 1 ≤ i → i ≤ xs.length → xs.drop i.toNat = ys → impl_PartitionValid.l0L xs xs (xs.length : Int) i = some (chainFrom (rd_T42 xs (i - 1)) ys)
 | [], i, h0, h1, hd => by
  have := drop_nil (by omega) h1 hd
  rw [impl_PartitionValid.l0L_eq, if_neg (by omega)]; rfl
 | y :: ys, i, h0, h1, hd => by
  obtain ⟨hr0, hl, hd'⟩ := getD_iv (d := z42) (by omega) hd
  have hr : rd_T42 xs i = y := hr0
  have ih := impl_PartitionValid_l0 xs hx ys (i + 1) (by omega) (by omega) hd'
  rw [show i + 1 - 1 = i by omega, hr] at ih
  rw [impl_PartitionValid.l0L_eq, if_pos hl, if_pos (by omega), if_pos hl, hr, impl_IntervalValid_f, Option.bind_some, w64 (n := i - 1) (by omega) (by omega), w64 (n := i + 1) (by omega) (by omega), if_pos (show i > 0 by omega), if_pos (show 0 ≤ i - 1 by omega), if_pos (show i - 1 < (xs.length : Int) by omega), impl_IntervalJoin_f, Option.bind_some, ih]
  simp only [chainFrom]
  cases hv : ivOk y.f0 y.f1 with
  | false => rw [joinOk_right hv]; simp
  | true => cases joinOk (rd_T42 xs (i - 1)).f0 (rd_T42 xs (i - 1)).f1 y.f0 y.f1 <;> simp
theorem impl_PartitionValid_f (xs : List S42) : impl_PartitionValid.fL xs = some (partOk xs) := by
 have jt : impl_PartitionValid.j0L xs true = some false := by rw [impl_PartitionValid.j0L_eq, if_pos rfl]
 rw [impl_PartitionValid.fL_eq, jt]
 unfold partOk
 cases xs with
 | nil => rfl
 | cons v vs =>
  have hlen : ((v :: vs).length : Int) = (vs.length : Int) + 1 := by simp
  have hv : rd_T42 (v :: vs) 0 = v := rfl
  rw [if_neg (by omega)]
  by_cases h6 : ((v :: vs).length : Int) > 6
  ·rw [if_pos h6]
   dsimp only
   rw [decide_eq_false (by omega)]; simp
  ·rw [if_neg h6, if_pos (by omega), hv]
   dsimp only
   rw [decide_eq_true (p := (v :: vs).length ≤ 6) (by omega)]
   by_cases h1 : v.f0.toList = []
   ·rw [if_pos h1, decide_eq_true h1, w64 (by omega) (by omega), if_pos (by omega), if_pos (by omega), bne_nilB]
    by_cases h2 : (rd_T42 (v :: vs) (((v :: vs).length : Int) - 1)).f1.toList = []
    ·rw [decide_eq_true h2, Bool.not_true, impl_PartitionValid.j0L_eq, if_neg (by simp), impl_PartitionValid.l0L_eq, if_pos (by omega), if_pos (by omega), if_pos (by omega), hv, impl_IntervalValid_f, Option.bind_some, if_neg (show ¬ ((0 : Int) > 0) by omega), w64 (n := 0 + 1) (by omega) (by omega),
      impl_PartitionValid_l0 (v :: vs) (by omega) vs (0 + 1) (by omega) (by omega) (by simp)]
     rw [show (0 : Int) + 1 - 1 = 0 by omega, hv]
     cases ivOk v.f0 v.f1 <;> simp
    ·rw [decide_eq_false h2, Bool.not_false, jt]; simp
   ·rw [if_neg h1, decide_eq_false h1]; simp

/-! #### Plan -/
theorem impl_shardNumber_f (a : Int) : impl_shardNumber.f a = some (decide (0 ≤ a ∧ a ≤ 7)) := by
 unfold impl_shardNumber.f
 by_cases h : a ≥ 0
 ·rw [if_pos h]; congr 1; rw [decide_eq_decide]; omega
 ·rw [if_neg h]; congr 1; rw [eq_comm, decide_eq_false_iff_not]; omega
/-! #### Routes -/
/-- The numbers are those of shards, and differ from those before. -/
def numsFrom : List Int → List S44 → Bool
 | _, [] => true
 | pre, y :: ys => decide (0 ≤ y.f0 ∧ y.f0 ≤ 7) && !decide (y.f0 ∈ pre) && numsFrom (pre ++ [y.f0]) ys
def spans (l : List S44) : List S42 := l.map fun r => ⟨r.f1.f0, r.f1.f1⟩
def routesOk (l : List S44) : Bool := decide (l.length ≤ 6) && partOk (spans l) && numsFrom [] l
theorem impl_spansOf_l0 (xs : List S44) (hx : xs.length ≤ 1000000000000) : ∀ (ys : List S44) (i : Int) (out : List S42), 0 ≤ i → i ≤ xs.length → (out.length : Int) ≤ i → xs.drop i.toNat = ys → impl_spansOf.l0L out xs (xs.length : Int) i = some (out ++ spans ys)
 | [], i, out, h0, h1, hl, hd => by
  have := drop_nil h0 h1 hd
  rw [impl_spansOf.l0L_eq, if_neg (by omega)]; simp [spans]
 | y :: ys, i, out, h0, h1, ho, hd => by
  obtain ⟨hr0, hl, hd'⟩ := getD_iv (d := z44) h0 hd
  have hr : rd_T44 xs i = y := hr0
  rw [impl_spansOf.l0L_eq, if_pos hl, if_pos h0, if_pos hl, if_pos (by omega), hr, w64 (by omega) (by omega), impl_spansOf_l0 xs hx ys (i + 1) _ (by omega) (by omega) (by simp; omega) hd']
  simp [spans]
theorem impl_spansOf_f (xs : List S44) (hx : xs.length ≤ 1000000000000) : impl_spansOf.fL xs = some (spans xs) := by
 rw [impl_spansOf.fL_eq, impl_spansOf_l0 xs hx xs 0 [] (by omega) (by omega) (by simp) (by simp)]; simp
/-- Where a number is first, from an index on; -1 if nowhere. -/
def placeFrom (n : Int) : List S44 → Int → Int
 | [], _ => -1
 | y :: ys, i => if y.f0 = n then i else placeFrom n ys (i + 1)
theorem impl_routePlace_l0 (xs : List S44) (n : Int) (hx : xs.length ≤ 1000000000000) : ∀ (ys : List S44) (i : Int), 0 ≤ i → i ≤ xs.length → xs.drop i.toNat = ys → impl_routePlace.l0L n xs (xs.length : Int) i = some (placeFrom n ys i)
 | [], i, h0, h1, hd => by
  have := drop_nil h0 h1 hd
  rw [impl_routePlace.l0L_eq, if_neg (by omega)]; rfl
 | y :: ys, i, h0, h1, hd => by
  obtain ⟨hr0, hl, hd'⟩ := getD_iv (d := z44) h0 hd
  have hr : rd_T44 xs i = y := hr0
  rw [impl_routePlace.l0L_eq, if_pos hl, if_pos h0, if_pos hl, hr, w64 (by omega) (by omega)]
  simp only [placeFrom]
  by_cases e : y.f0 = n
  ·rw [if_pos e, if_pos e]
  ·rw [if_neg e, if_neg e]; exact impl_routePlace_l0 xs n hx ys (i + 1) (by omega) (by omega) hd'
theorem impl_routePlace_f (xs : List S44) (n : Int) (hx : xs.length ≤ 1000000000000) : impl_routePlace.fL xs n = some (placeFrom n xs 0) := by
 rw [impl_routePlace.fL_eq]; exact impl_routePlace_l0 xs n hx xs 0 (by omega) (by omega) (by simp)
theorem placeFrom_ge (n : Int) : ∀ (ys : List S44) (i : Int), 0 ≤ i → (placeFrom n ys i ≥ 0 ↔ n ∈ ys.map fun r => r.f0)
 | [], i, _ => by simp [placeFrom]
 | y :: ys, i, h => by
  have ih := placeFrom_ge n ys (i + 1) (by omega)
  simp only [placeFrom, List.map_cons, List.mem_cons]
  by_cases e : y.f0 = n
  ·rw [if_pos e]; simp [e, h]
  ·rw [if_neg e, ih]
   have e' : ¬ n = y.f0 := fun h => e h.symm
   simp [e']
theorem impl_numbersDiffer_l0 (xs : List S44) (hx : xs.length ≤ 1000000000000) : ∀ (ys : List S44) (i : Int), 0 ≤ i → i ≤ xs.length → xs.drop i.toNat = ys → impl_numbersDiffer.l0L xs xs (xs.length : Int) i = some (numsFrom ((xs.take i.toNat).map fun r => r.f0) ys)
 | [], i, h0, h1, hd => by
  have := drop_nil h0 h1 hd
  rw [impl_numbersDiffer.l0L_eq, if_neg (by omega)]; rfl
 | y :: ys, i, h0, h1, hd => by
  obtain ⟨hr0, hl, hd'⟩ := getD_iv (d := z44) h0 hd
  have hr : rd_T44 xs i = y := hr0
  have htk : xs.take (i.toNat + 1) = xs.take i.toNat ++ [y] := by
   have h2 : i.toNat < xs.length := by omega
   rw [List.take_succ_eq_append_getElem h2]
   have := hr0
   rw [List.getD_eq_getElem?_getD, List.getElem?_eq_getElem h2] at this
   simp at this
   rw [this]
  rw [impl_numbersDiffer.l0L_eq, if_pos hl, if_pos h0, if_pos hl, hr, impl_shardNumber_f, Option.bind_some, if_pos h1, impl_routePlace_f _ _ (by rw [List.length_take]; omega), Option.bind_some, w64 (by omega) (by omega),
   impl_numbersDiffer_l0 xs hx ys (i + 1) (by omega) (by omega) hd', show (i + 1).toNat = i.toNat + 1 by omega, htk]
  simp only [numsFrom, List.map_append, List.map_cons, List.map_nil]
  have hp := placeFrom_ge y.f0 (xs.take i.toNat) 0 (by omega)
  by_cases h2 : 0 ≤ y.f0 ∧ y.f0 ≤ 7
  ·rw [decide_eq_true h2, if_pos rfl]
   by_cases h3 : y.f0 ∈ (xs.take i.toNat).map fun r => r.f0
   ·rw [if_pos (hp.2 h3), decide_eq_true h3]; rfl
   ·rw [if_neg (fun e => h3 (hp.1 e)), decide_eq_false h3]; rfl
  ·rw [decide_eq_false h2, if_neg (by simp)]; rfl
theorem impl_numbersDiffer_f (xs : List S44) (hx : xs.length ≤ 1000000000000) : impl_numbersDiffer.fL xs = some (numsFrom [] xs) := by
 rw [impl_numbersDiffer.fL_eq, impl_numbersDiffer_l0 xs hx xs 0 (by omega) (by omega) (by simp)]; simp
theorem impl_RoutesValid_f (xs : List S44) : impl_RoutesValid.fL xs = some (routesOk xs) := by
 rw [impl_RoutesValid.fL_eq]
 unfold routesOk
 by_cases h : (xs.length : Int) ≤ 6
 ·rw [if_pos h, impl_spansOf_f xs (by omega), Option.bind_some, impl_PartitionValid_f, Option.bind_some, impl_numbersDiffer_f xs (by omega), Option.bind_some, decide_eq_true (by omega)]
  cases partOk (spans xs) <;> rfl
 ·rw [if_neg h, decide_eq_false (by omega)]; rfl

/-! #### spec_l1In -/
theorem spec_l1In_f (a lo hi : Int) : spec_l1In.f a lo hi = some (decide (lo ≤ a ∧ a ≤ hi)) := by
 unfold spec_l1In.f
 by_cases h : a ≥ lo
 ·rw [if_pos h]; congr 1; rw [decide_eq_decide]; omega
 ·rw [if_neg h]; congr 1; rw [eq_comm, decide_eq_false_iff_not]; omega

/-! #### spec_KeyValid -/
theorem spec_KeyValid_l0 (s : ByteArray) (hs : s.size ≤ 1000) : ∀ (ys : List Int) (i : Int), 0 ≤ i → i ≤ s.size → (bs s).drop i.toNat = ys → spec_KeyValid.l0L s i = some (letters ys)
 | [], i, h0, h1, hd => by
  have := drop_nil h0 (by rw [bs_length]; exact h1) hd
  rw [bs_length] at this
  rw [spec_KeyValid.l0L_eq, if_neg (by omega)]; rfl
 | y :: ys, i, h0, h1, hd => by
  obtain ⟨hr, hl, hd'⟩ := rd_drop h0 hd
  rw [bs_length] at hl
  rw [spec_KeyValid.l0L_eq, if_pos hl, if_pos h0, bt_bs, hr, w64 (by omega) (by omega)]
  unfold letters
  rw [List.all_cons]
  by_cases e1 : y < 97
  ·rw [if_pos e1, decide_eq_false (by omega)]; rfl
  ·rw [if_neg e1]
   by_cases e2 : y > 122
   ·rw [if_pos e2, decide_eq_false (by omega)]; rfl
   ·rw [if_neg e2, decide_eq_true (by omega), spec_KeyValid_l0 s hs ys (i + 1) (by omega) (by omega) hd']; rfl
theorem spec_KeyValid_f (s : ByteArray) : spec_KeyValid.fL s = some (keyOk (bs s)) := by
 rw [spec_KeyValid.fL_eq, spec_l1In_f, Option.bind_some]
 unfold keyOk
 rw [bs_length]
 by_cases h : 1 ≤ (s.size : Int) ∧ (s.size : Int) ≤ 4
 ·rw [if_pos (by simpa using h), decide_eq_true (by omega), spec_KeyValid_l0 s (by omega) (bs s) 0 (by omega) (by omega) (by simp)]; rfl
 ·rw [if_neg (by simpa using h), decide_eq_false (by omega)]; rfl

/-! #### spec_Interval -/
theorem less_a (hi : ByteArray) (h : keyOk (bs hi) = true) : (Op.bytesLess [] hi.toList && (hi.toList != [97])) = Op.bytesLess [97] hi.toList := by
 have hl : letters (bs hi) = true := keyOk_letters h
 have hn := (keyOk_len h).1
 have hb : bs hi = hi.toList.map fun b => (b.toNat : Int) := by rw [toList_data]; rfl
 rw [hb] at hl hn
 cases e : hi.toList with
 | nil => rw [e] at hn; simp at hn
 | cons b l =>
  rw [e] at hl
  obtain ⟨h1, _⟩ := letters_cons hl
  have h1 : 97 ≤ (b.toNat : Int) ∧ (b.toNat : Int) ≤ 122 := h1
  simp only [Op.bytesLess]
  by_cases hb97 : b = 97
  ·subst hb97
   cases l with
   | nil => simp [Op.bytesLess]
   | cons c l => simp [Op.bytesLess]
  ·have hlt : (97 : UInt8) < b := by
    rw [UInt8.lt_iff_toNat_lt]
    have : b.toNat ≠ (97 : UInt8).toNat := fun e => hb97 (UInt8.toNat_inj.1 e)
    have e97 : (97 : UInt8).toNat = 97 := rfl
    omega
   simp [hlt, hb97]
theorem spec_IntervalValid_f (lo hi : ByteArray) : spec_IntervalValid.fL lo hi = some (ivOk lo hi) := by
 rw [spec_IntervalValid.fL_eq, spec_KeyValid_f, spec_KeyValid_f]
 simp only [Option.bind_some]
 unfold ivOk low
 by_cases h1 : lo.toList = []
 ·rw [if_pos h1, if_pos h1, decide_eq_true h1]
  by_cases h2 : hi.toList = []
  ·rw [if_pos h2, decide_eq_true h2]; rfl
  ·rw [if_neg h2, decide_eq_false h2]
   cases hk : keyOk (bs hi) with
   | false => simp
   | true =>
    have e97 : (⟨#[97]⟩ : ByteArray).toList = [97] := by rw [toList_data]
    rw [h1, e97, ← less_a hi hk]
    cases Op.bytesLess [] hi.toList <;> simp
 ·rw [if_neg h1, if_neg h1, decide_eq_false h1]
  by_cases h2 : hi.toList = []
  ·rw [if_pos h2, decide_eq_true h2]
   cases keyOk (bs lo) <;> simp
  ·rw [if_neg h2, decide_eq_false h2]
   cases keyOk (bs lo) <;> cases keyOk (bs hi) <;> cases Op.bytesLess lo.toList hi.toList <;> simp

/-! #### spec_IntervalJoin -/
theorem spec_IntervalJoin_f (a b c d : ByteArray) : spec_IntervalJoin.fL a b c d = some (if joinOk a b c d = true then (a, d, true) else ((⟨#[]⟩ : ByteArray), (⟨#[]⟩ : ByteArray), false)) := by
 rw [spec_IntervalJoin.fL_eq, spec_IntervalValid_f, spec_IntervalValid_f]
 simp only [Option.bind_some]
 unfold joinOk
 cases ivOk a b with
 | false => simp
 | true =>
  cases ivOk c d with
  | false => simp
  | true =>
   by_cases h1 : b.toList = []
   ·rw [decide_eq_true h1]; simp [h1]
   ·rw [decide_eq_false h1]
    by_cases h2 : b.toList = c.toList
    ·rw [decide_eq_true h2]
     rw [if_pos rfl, if_pos rfl, if_neg h1, if_pos h2]; simp
    ·rw [decide_eq_false h2]
     rw [if_pos rfl, if_pos rfl, if_neg h1, if_neg h2]; simp

/-! #### spec_Partition -/
theorem spec_PartitionValid_l0 (xs : List S42) (hx : xs.length ≤ 6) : ∀ (ys : List S42) (i : Int), 1 ≤ i → i ≤ xs.length → xs.drop i.toNat = ys → spec_PartitionValid.l0L xs i = some (chainFrom (rd_T42 xs (i - 1)) ys)
 | [], i, h0, h1, hd => by
  have := drop_nil (by omega) h1 hd
  rw [spec_PartitionValid.l0L_eq, if_neg (by omega)]; rfl
 | y :: ys, i, h0, h1, hd => by
  obtain ⟨hr0, hl, hd'⟩ := getD_iv (d := z42) (by omega) hd
  have hr : rd_T42 xs i = y := hr0
  have ih := spec_PartitionValid_l0 xs hx ys (i + 1) (by omega) (by omega) hd'
  rw [show i + 1 - 1 = i by omega, hr] at ih
  rw [spec_PartitionValid.l0L_eq, if_pos hl, w64 (n := i - 1) (by omega) (by omega), w64 (n := i + 1) (by omega) (by omega), if_pos (by omega), if_pos (by omega), if_pos (by omega), hr, spec_IntervalJoin_f, Option.bind_some, ih]
  simp only [chainFrom]
  cases joinOk (rd_T42 xs (i - 1)).f0 (rd_T42 xs (i - 1)).f1 y.f0 y.f1 <;> simp
theorem spec_PartitionValid_f (xs : List S42) : spec_PartitionValid.fL xs = some (partOk xs) := by
 have jt : spec_PartitionValid.j0L xs true = some false := by rw [spec_PartitionValid.j0L_eq, if_pos rfl]
 rw [spec_PartitionValid.fL_eq, jt, spec_l1In_f, Option.bind_some]
 unfold partOk
 cases xs with
 | nil => rfl
 | cons v vs =>
  have hlen : ((v :: vs).length : Int) = (vs.length : Int) + 1 := by simp
  have hv : rd_T42 (v :: vs) 0 = v := rfl
  by_cases h6 : ((v :: vs).length : Int) > 6
  ·rw [if_neg (by simp only [decide_eq_true_eq]; omega)]
   dsimp only
   rw [decide_eq_false (by omega)]; simp
  ·rw [if_pos (by simp only [decide_eq_true_eq]; omega), if_pos (by omega), hv, spec_IntervalValid_f, Option.bind_some]
   dsimp only
   rw [decide_eq_true (p := (v :: vs).length ≤ 6) (by omega)]
   cases hi : ivOk v.f0 v.f1 with
   | false => simp
   | true =>
    by_cases h1 : v.f0.toList = []
    ·rw [if_pos rfl, if_pos h1, decide_eq_true h1, w64 (by omega) (by omega), if_pos (by omega), if_pos (by omega), bne_nilB]
     by_cases h2 : (rd_T42 (v :: vs) (((v :: vs).length : Int) - 1)).f1.toList = []
     ·rw [decide_eq_true h2, Bool.not_true, spec_PartitionValid.j0L_eq, if_neg (by simp), spec_PartitionValid_l0 (v :: vs) (by omega) vs 1 (by omega) (by omega) (by simp)]
      rw [show (1 : Int) - 1 = 0 by omega, hv]; simp
     ·rw [decide_eq_false h2, Bool.not_false, jt]; simp
    ·rw [if_pos rfl, if_neg h1, decide_eq_false h1]; simp

/-! #### spec_Routes -/
theorem spec_RoutesValid_l1 (xs : List S44) (out : List S42) (ho : out.length ≤ 100) (hx : xs.length ≤ 1000000000000) (k : Int) (y : S44) (h0 : 0 ≤ k) (hk : k < xs.length) (hy : rd_T44 xs k = y) : ∀ (zs : List S44) (j : Int), 0 ≤ j → j ≤ k → (xs.take k.toNat).drop j.toNat = zs → spec_RoutesValid.l1L xs out k j = if y.f0 ∈ zs.map (fun r => r.f0) then some false else spec_RoutesValid.l0L xs (out ++ [⟨y.f1.f0, y.f1.f1⟩]) (k + 1)
 | [], j, h1, h2, hd => by
  have hl : (xs.take k.toNat).length = k.toNat := by rw [List.length_take]; omega
  have := drop_nil h1 (by omega) hd
  rw [spec_RoutesValid.l1L_eq, if_neg (by omega), if_pos h0, if_pos hk, if_pos (by omega), hy, w64 (by omega) (by omega), if_neg (by simp)]
 | z :: zs, j, h1, h2, hd => by
  have hl : (xs.take k.toNat).length = k.toNat := by rw [List.length_take]; omega
  obtain ⟨hr, hlt, hd'⟩ := getD_iv (d := z44) h1 hd
  have hr' : rd_T44 xs j = z := by
   rw [← hr]; unfold rd_T44
   rw [List.getD_eq_getElem?_getD, List.getD_eq_getElem?_getD, List.getElem?_take, if_pos (by omega)]
  rw [spec_RoutesValid.l1L_eq, if_pos (by omega), if_pos h1, if_pos (by omega), if_pos h0, if_pos hk, hr', hy, w64 (by omega) (by omega)]
  by_cases e : z.f0 = y.f0
  ·rw [if_pos e, if_pos (by simp [e])]
  ·rw [if_neg e, spec_RoutesValid_l1 xs out ho hx k y h0 hk hy zs (j + 1) (by omega) (by omega) hd']
   have e' : ¬ y.f0 = z.f0 := fun h => e h.symm
   simp [e']
theorem spec_RoutesValid_l0 (xs : List S44) (hx : xs.length ≤ 1000000000000) : ∀ (ys : List S44) (i : Int), 0 ≤ i → i ≤ 6 → i ≤ xs.length → xs.drop i.toNat = ys → spec_RoutesValid.l0L xs (spans (xs.take i.toNat)) i = some (decide (xs.length ≤ 6) && partOk (spans xs) && numsFrom ((xs.take i.toNat).map fun r => r.f0) ys)
 | [], i, h0, h6, h1, hd => by
  have := drop_nil h0 h1 hd
  rw [spec_RoutesValid.l0L_eq, if_neg (by omega), List.take_of_length_le (by omega), spec_PartitionValid_f, Option.bind_some, decide_eq_true (by omega)]; simp [numsFrom]
 | y :: ys, i, h0, h6, h1, hd => by
  obtain ⟨hr0, hl, hd'⟩ := getD_iv (d := z44) h0 hd
  have hr : rd_T44 xs i = y := hr0
  have jt : spec_RoutesValid.j1L xs (spans (xs.take i.toNat)) i true = some false := by rw [spec_RoutesValid.j1L_eq, if_pos rfl]
  have htk : xs.take (i.toNat + 1) = xs.take i.toNat ++ [y] := by
   have h2 : i.toNat < xs.length := by omega
   rw [List.take_succ_eq_append_getElem h2]
   have := hr0
   rw [List.getD_eq_getElem?_getD, List.getElem?_eq_getElem h2] at this
   simp at this
   rw [this]
  rw [spec_RoutesValid.l0L_eq, if_pos hl]
  by_cases c : i ≥ 6
  ·rw [if_pos c, jt, decide_eq_false (by omega)]; rfl
  ·rw [if_neg c, if_pos h0, hr, spec_l1In_f, Option.bind_some]
   by_cases h2 : 0 ≤ y.f0 ∧ y.f0 ≤ 7
   ·have e2 : spans (xs.take i.toNat) ++ [⟨y.f1.f0, y.f1.f1⟩] = spans (xs.take (i.toNat + 1)) := by rw [htk]; simp [spans]
    have ih := spec_RoutesValid_l0 xs hx ys (i + 1) (by omega) (by omega) (by omega) hd'
    rw [show (i + 1).toNat = i.toNat + 1 by omega] at ih
    rw [decide_eq_true h2, Bool.not_true, spec_RoutesValid.j1L_eq, if_neg (by simp), spec_RoutesValid_l1 xs (spans (xs.take i.toNat)) (by simp [spans]; omega) hx i y h0 hl hr (xs.take i.toNat) 0 (by omega) h0 (by simp), e2, ih, htk]
    simp only [numsFrom, List.map_append, List.map_cons, List.map_nil]
    by_cases h3 : y.f0 ∈ (xs.take i.toNat).map fun r => r.f0
    ·rw [if_pos h3, decide_eq_true h3]; simp
    ·rw [if_neg h3, decide_eq_false h3, decide_eq_true h2]; simp
   ·rw [decide_eq_false h2, Bool.not_false, jt]
    simp only [numsFrom]
    rw [decide_eq_false h2]; simp
theorem spec_RoutesValid_f (xs : List S44) (hx : xs.length ≤ 1000000000000) : spec_RoutesValid.fL xs = some (routesOk xs) := by
 have h := spec_RoutesValid_l0 xs hx xs 0 (by omega) (by omega) (by omega) (by simp)
 rw [spec_RoutesValid.fL_eq]
 exact h

/-! #### partmem -/
theorem chain_mem : ∀ (vs : List S42) (v : S42), chainFrom v vs = true → ∀ w ∈ vs, ivOk w.f0 w.f1 = true
 | [], v, _, w, hw => by cases hw
 | x :: xs, v, h, w, hw => by
  simp only [chainFrom, joinOk, Bool.and_eq_true] at h
  rcases List.mem_cons.1 hw with rfl | hw
  ·exact h.1.1.1.2
  ·exact chain_mem xs x h.2 w hw
theorem partOk_mem {ps : List S42} (h : partOk ps = true) : ∀ w ∈ ps, ivOk w.f0 w.f1 = true := by
 cases ps with
 | nil => cases h
 | cons v vs =>
  simp only [partOk, Bool.and_eq_true, decide_eq_true_eq] at h
  intro w hw
  rcases List.mem_cons.1 hw with rfl | hw
  ·exact h.1.1.1.2
  ·exact chain_mem vs v h.2 w hw

/-! #### RoutesText -/
def rword (p : S44) : List UInt8 := Lib.itoa p.f0 ++ 58 :: (p.f1.f0.data.toList ++ 45 :: p.f1.f1.data.toList)
def rtext (l : List S44) : ByteArray := if routesOk l = true then ⟨(Lib.join (l.map rword) [32]).toArray⟩ else ⟨#[]⟩
theorem size_arr (l : List UInt8) : (⟨l.toArray⟩ : ByteArray).size = l.length := by simp [ByteArray.size]
theorem numsFrom_small : ∀ (l : List S44) (p : List Int), numsFrom p l = true → ∀ y ∈ l, 0 ≤ y.f0 ∧ y.f0 ≤ 7
 | [], _, _, y, hy => by cases hy
 | x :: l, p, h, y, hy => by
  simp only [numsFrom, Bool.and_eq_true, decide_eq_true_eq] at h
  cases hy with
  | head => exact h.1.1
  | tail _ hy => exact numsFrom_small l _ h.2 y hy
theorem ivOk_small {a b : ByteArray} (h : ivOk a b = true) : a.size ≤ 4 ∧ b.size ≤ 4 := by
 have key : ∀ c : ByteArray, (decide (c.toList = []) || keyOk (bs c)) = true → c.size ≤ 4 := by
  intro c hc
  rw [Bool.or_eq_true, decide_eq_true_eq, toList_nil] at hc
  rcases hc with hc | hc
  ·rw [← bs_length, hc]; simp
  ·unfold keyOk at hc
   rw [Bool.and_eq_true, decide_eq_true_eq, bs_length] at hc
   exact hc.1.2
 unfold ivOk at h
 rw [Bool.and_eq_true, Bool.and_eq_true] at h
 exact ⟨key a h.1.1, key b h.1.2⟩
theorem route_small {l : List S44} (h : routesOk l = true) : l.length ≤ 6 ∧ ∀ y ∈ l, (0 ≤ y.f0 ∧ y.f0 ≤ 7) ∧ y.f1.f0.size ≤ 4 ∧ y.f1.f1.size ≤ 4 := by
 unfold routesOk at h
 rw [Bool.and_eq_true, Bool.and_eq_true, decide_eq_true_eq] at h
 refine ⟨h.1.1, fun y hy => ⟨numsFrom_small l _ h.2 y hy, ?_⟩⟩
 exact ivOk_small (partOk_mem h.1.2 ⟨y.f1.f0, y.f1.f1⟩ (by unfold spans; exact List.mem_map.2 ⟨y, hy, rfl⟩))
theorem spec_RoutesText_l0 (xs : List S44) (hok : routesOk xs = true) : ∀ (ys : List S44) (i : Int) (out : ByteArray), 0 ≤ i → i ≤ xs.length → (out.size : Int) ≤ 2000 * i → xs.drop i.toNat = ys →
  spec_RoutesText.l0L xs out i = some ⟨(out.data.toList ++ (if i = 0 then Lib.join (ys.map rword) [32] else Lib.joinTail [32] (ys.map rword))).toArray⟩
 | [], i, out, h0, h1, ho, hd => by
  have := drop_nil h0 h1 hd
  rw [spec_RoutesText.l0L_eq, if_neg (by omega), spec_RoutesText.j1L_eq, if_neg Bool.false_ne_true]
  have : (if i = 0 then Lib.join (([] : List S44).map rword) [32] else Lib.joinTail [32] (([] : List S44).map rword)) = [] := by split <;> rfl
  rw [this, List.append_nil]
 | y :: ys, i, out, h0, h1, ho, hd => by
  obtain ⟨h48, hsm⟩ := route_small hok
  obtain ⟨hr0, hl, hd'⟩ := getD_iv (d := z44) h0 hd
  have hr : rd_T44 xs i = y := hr0
  obtain ⟨hn, hA, hB⟩ := hsm y (List.mem_of_mem_drop (i := i.toNat) (by rw [hd]; exact List.mem_cons_self))
  have hi := itoa_len hn.1 (show y.f0 ≤ 999 by omega)
  have ih := fun (o : ByteArray) (h : (o.size : Int) ≤ 2000 * (i + 1)) => spec_RoutesText_l0 xs hok ys (i + 1) o (by omega) (by omega) h hd'
  have z : ∀ (a b : ByteArray), (a ++ b).size = a.size + b.size := fun a b => ByteArray.size_append
  have s32 : (⟨#[32]⟩ : ByteArray).size = 1 := rfl
  have s58 : (⟨#[58]⟩ : ByteArray).size = 1 := rfl
  have s45 : (⟨#[45]⟩ : ByteArray).size = 1 := rfl
  have sI := size_arr (Lib.itoa y.f0)
  rw [spec_RoutesText.l0L_eq, if_pos hl, spec_RoutesValid_f xs (by omega), Option.bind_some, hok, spec_RoutesText.j1L_eq, if_pos rfl, hr, spec_l7Text_f y.f0 hn.1 (by omega), w64 (by omega) (by omega)]
  by_cases c : i > 0
  ·rw [if_pos c, if_pos (by omega), if_pos h0, if_pos hl, Option.bind_some, if_pos (by simp only [z, s32, sI]; omega), if_pos (by simp only [z, s32, sI]; omega), if_pos (by simp only [z, s32, s58, sI]; omega), if_pos (by simp only [z, s32, s58, sI]; omega), if_pos (by simp only [z, s32, s58, s45, sI]; omega), ih _ (by simp only [z, s32, s58, s45, sI]; omega), if_neg (by omega), if_neg (by omega)]
   simp [Lib.joinTail, rword]
  ·rw [if_neg c, if_pos h0, if_pos hl, Option.bind_some, if_pos (by simp only [z, sI]; omega), if_pos (by simp only [z, sI]; omega), if_pos (by simp only [z, s58, sI]; omega), if_pos (by simp only [z, s58, sI]; omega), if_pos (by simp only [z, s58, s45, sI]; omega), ih _ (by simp only [z, s58, s45, sI]; omega), if_neg (by omega), if_pos (by omega), List.map_cons, Lib.join_cons]
   simp [rword]
theorem spec_RoutesText_f (xs : List S44) (hx : xs.length ≤ 1000000000000) : spec_RoutesText.fL xs = some (rtext xs) := by
 rw [spec_RoutesText.fL_eq]
 unfold rtext
 by_cases h : routesOk xs = true
 ·rw [if_pos h, spec_RoutesText_l0 xs h xs 0 _ (by omega) (by omega) (by show ((0 : Nat) : Int) ≤ _; omega) (by simp), if_pos rfl]; rfl
 ·rw [if_neg h, spec_RoutesText.l0L_eq]
  by_cases c : (0 : Int) < xs.length
  ·rw [if_pos c, spec_RoutesValid_f xs hx, Option.bind_some, spec_RoutesText.j1L_eq, if_neg h]
  ·rw [if_neg c, spec_RoutesText.j1L_eq, if_neg Bool.false_ne_true]
theorem impl_RoutesText_l0 (xs : List S44) (hok : routesOk xs = true) : ∀ (ys : List S44) (i : Int) (a : List ByteArray), 0 ≤ i → i ≤ xs.length → (a.length : Int) ≤ i → (∀ x ∈ a, x.size ≤ 2000) → xs.drop i.toNat = ys →
  impl_RoutesText.l0L a xs (xs.length : Int) i = some ⟨(Lib.join (a.map (·.data.toList) ++ ys.map rword) [32]).toArray⟩
 | [], i, a, h0, h1, ha, hs, hd => by
  have := drop_nil h0 h1 hd
  obtain ⟨h48, hsm⟩ := route_small hok
  rw [impl_RoutesText.l0L_eq, if_neg (by omega), strings_Join_e a 2000 (by omega) (by omega) hs, Option.bind_some, List.map_nil, List.append_nil]
 | y :: ys, i, a, h0, h1, ha, hs, hd => by
  obtain ⟨h48, hsm⟩ := route_small hok
  obtain ⟨hr0, hl, hd'⟩ := getD_iv (d := z44) h0 hd
  have hr : rd_T44 xs i = y := hr0
  obtain ⟨hn, hA, hB⟩ := hsm y (List.mem_of_mem_drop (i := i.toNat) (by rw [hd]; exact List.mem_cons_self))
  have hi := itoa_len hn.1 (show y.f0 ≤ 999 by omega)
  have z : ∀ (a b : ByteArray), (a ++ b).size = a.size + b.size := fun a b => ByteArray.size_append
  have s58 : (⟨#[58]⟩ : ByteArray).size = 1 := rfl
  have s45 : (⟨#[45]⟩ : ByteArray).size = 1 := rfl
  have sI := size_arr (Lib.itoa y.f0)
  have ih := fun (q : ByteArray) (hq : q.size ≤ 2000) => impl_RoutesText_l0 xs hok ys (i + 1) (a ++ [q]) (by omega) (by omega) (by simp; omega) (fun x hx => by
   rcases List.mem_append.1 hx with hx | hx
   ·exact hs x hx
   ·rw [List.mem_singleton.1 hx]; exact hq) hd'
  rw [impl_RoutesText.l0L_eq, if_pos hl, if_pos h0, if_pos hl, hr, strconv_Itoa_e hn.1 (by omega), Option.bind_some, if_pos (by simp only [sI]; omega), if_pos (by simp only [z, s58, sI]; omega), if_pos (by simp only [z, s58, sI]; omega), if_pos (by simp only [z, s58, s45, sI]; omega), if_pos (by omega), w64 (by omega) (by omega), ih _ (by simp only [z, s58, s45, sI]; omega)]
  simp [rword]
theorem impl_RoutesText_f (xs : List S44) : impl_RoutesText.fL xs = some (rtext xs) := by
 rw [impl_RoutesText.fL_eq, impl_RoutesValid_f, Option.bind_some]
 unfold rtext
 by_cases h : routesOk xs = true
 ·rw [if_pos h, if_pos h, impl_RoutesText_l0 xs h xs 0 [] (by omega) (by omega) (by simp) (by simp) (by simp)]; rfl
 ·rw [if_neg h, if_neg h]

/-! #### intS -/
theorem set_at {α : Type} {xs : List α} {i : Nat} {y z : α} {ys : List α} (h : xs.drop i = y :: ys) : (xs.set i z).take (i + 1) = xs.take i ++ [z] ∧ (xs.set i z).drop (i + 1) = ys ∧ (xs.set i z).length = xs.length := by
 have h1 : i < xs.length := by
  by_cases e : i < xs.length
  ·exact e
  ·rw [List.drop_eq_nil_of_le (by omega)] at h; cases h
 rw [List.drop_eq_getElem_cons h1] at h
 injection h with ha hb
 refine ⟨?_, ?_, by simp⟩
 ·rw [List.take_succ_eq_append_getElem (by simpa using h1), List.take_set_of_le (by omega)]; simp
 ·rw [List.drop_set_of_lt (by omega)]; exact hb
theorem drop_take_cons {α : Type} {xs pre : List α} {i : Nat} {y : α} {ys : List α} (h : xs.drop i = y :: ys) : xs.take (i + 1) = xs.take i ++ [y] ∧ i < xs.length ∧ xs.drop (i + 1) = ys := by
 have h1 : i < xs.length := by
  by_cases e : i < xs.length
  ·exact e
  ·rw [List.drop_eq_nil_of_le (by omega)] at h; cases h
 rw [List.drop_eq_getElem_cons h1] at h
 injection h with ha hb
 exact ⟨by rw [List.take_succ_eq_append_getElem h1, ha], h1, hb⟩

/-! #### loops -/
theorem getD_drop {α : Type} {xs : List α} {d : α} {i : Int} {y : α} {ys : List α} (h0 : 0 ≤ i) (h : xs.drop i.toNat = y :: ys) : xs.getD i.toNat d = y ∧ i < xs.length ∧ xs.drop (i + 1).toNat = ys := by
 have h1 : i.toNat < xs.length := by
  by_cases e : i.toNat < xs.length
  ·exact e
  ·rw [List.drop_eq_nil_of_le (by omega)] at h; cases h
 rw [List.drop_eq_getElem_cons h1] at h
 injection h with ha hb
 refine ⟨?_, by omega, ?_⟩
 ·rw [List.getD_eq_getElem?_getD, List.getElem?_eq_getElem h1]; exact ha
 ·rw [show (i + 1).toNat = i.toNat + 1 by omega]; exact hb
/-- A copy, element by element, into a list of the same length. -/
theorem copy_loop {α : Type} (ys : List α) (d : α) (n : Nat) (hn : n = ys.length) (L : List α → Int → Option (List α))
  (hL : ∀ (zs : List α) (i : Int), 0 ≤ i → i ≤ n → zs.length = n → L zs i = if i < (n : Int) then L (zs.set i.toNat (ys.getD i.toNat d)) (i + 1) else some zs) :
  ∀ (ws zs : List α) (i : Int), 0 ≤ i → i ≤ n → ys.drop i.toNat = ws → zs.length = n → zs.take i.toNat = ys.take i.toNat → L zs i = some ys
 | [], zs, i, h0, h1, hd, hl, ht => by
  have := drop_nil h0 (by omega) hd
  rw [hL zs i h0 h1 hl, if_neg (by omega)]
  rw [List.take_of_length_le (by omega), List.take_of_length_le (by omega)] at ht
  rw [ht]
 | w :: ws, zs, i, h0, h1, hd, hl, ht => by
  obtain ⟨hr, hlt, hd'⟩ := getD_drop (d := d) h0 hd
  obtain ⟨t1, _, _⟩ := drop_take_cons (pre := ys) hd
  have hz : zs.drop i.toNat = zs[i.toNat]'(by omega) :: zs.drop (i.toNat + 1) := List.drop_eq_getElem_cons (by omega)
  obtain ⟨s1, s2, s3⟩ := set_at (z := w) hz
  rw [hL zs i h0 h1 hl, if_pos (by omega), hr]
  exact copy_loop ys d n hn L hL ws _ (i + 1) (by omega) (by omega) hd' (by omega) (by rw [show (i + 1).toNat = i.toNat + 1 by omega, s1, t1, ht])
theorem copy_loop0 {α : Type} (ys zs : List α) (d : α) (n : Nat) (hn : n = ys.length) (hz : zs.length = n) (L : List α → Int → Option (List α))
  (hL : ∀ (zs : List α) (i : Int), 0 ≤ i → i ≤ n → zs.length = n → L zs i = if i < (n : Int) then L (zs.set i.toNat (ys.getD i.toNat d)) (i + 1) else some zs) : L zs 0 = some ys :=
 copy_loop ys d n hn L hL ys zs 0 (by omega) (by omega) (by simp) hz (by simp)
/-! #### refl_loop -/
theorem refl_loop (n : Nat) (L : Int → Option Bool) (hL : ∀ i : Int, 0 ≤ i → i ≤ n → L i = if i < (n : Int) then L (i + 1) else some true) : ∀ (m : Nat) (i : Int), i + m = n → 0 ≤ i → L i = some true
 | 0, i, h, h0 => by rw [hL i h0 (by omega), if_neg (by omega)]
 | m + 1, i, h, h0 => by rw [hL i h0 (by omega), if_pos (by omega)]; exact refl_loop n L hL m (i + 1) (by omega) (by omega)
theorem refl_loop0 (n : Nat) (L : Int → Option Bool) (hL : ∀ i : Int, 0 ≤ i → i ≤ n → L i = if i < (n : Int) then L (i + 1) else some true) : L 0 = some true := refl_loop n L hL n 0 (by omega) (by omega)

/-! #### markText -/
/-! #### routeS -/
theorem eqInterval_refl (a b : ByteArray) : laws_eqInterval.f a b a b = some true := by unfold laws_eqInterval.f; simp
theorem eqRoute_refl (a : Int) (b c : ByteArray) : laws_eqRoute.f a b c a b c = some true := by unfold laws_eqRoute.f; simp [eqInterval_refl]
theorem eqRouteS_refl (xs : List S44) (hx : xs.length ≤ 1000000000000) : laws_eqRouteS.fL xs xs = some true := by
 rw [laws_eqRouteS.fL_eq, if_pos rfl]
 refine refl_loop0 xs.length (fun i => laws_eqRouteS.l0L xs xs i) (fun i h0 h1 => ?_)
 rw [laws_eqRouteS.l0L_eq]
 by_cases h : i < (xs.length : Int)
 ·rw [if_pos h, if_pos h0, if_pos h, eqRoute_refl, Option.bind_some, if_pos rfl, w64 (by omega) (by omega), if_pos h]
 ·rw [if_neg h, if_neg h]
/-! #### szRouteS -/
def cvRoute (x : S39) : S44 := ⟨x.f0, ⟨x.f1.f0, x.f1.f1⟩⟩
theorem getD_mapM {α β : Type} (f : α → β) (xs : List α) (i : Nat) (d : α) (e : β) (h : i < xs.length) : (xs.map f).getD i e = f (xs.getD i d) := by
 simp [List.getD_eq_getElem?_getD, List.getElem?_eq_getElem h]
theorem toRouteS_f (xs : List S39) (hx : xs.length ≤ 1048576) : laws_toRouteS.fL xs = some (xs.map cvRoute) := by
 rw [laws_toRouteS.fL_eq, if_pos (by omega), if_pos (by omega)]
 refine copy_loop0 (xs.map cvRoute) _ z44 xs.length (by simp) (by simp) (fun zs i => laws_toRouteS.l0L xs zs i) (fun zs i h0 h1 hl => ?_)
 rw [laws_toRouteS.l0L_eq]
 unfold laws_toRoute.f laws_toInterval.f
 by_cases h : i < (xs.length : Int)
 ·rw [if_pos h, if_pos h0, Option.bind_some, Option.bind_some, if_pos (by omega), w64 (by omega) (by omega), if_pos h, getD_mapM cvRoute xs i.toNat z39 _ (by omega)]; rfl
 ·rw [if_neg h, if_neg h]
theorem szRoute_f (x : S39) (k : Int) (hs : x.f1.f0.size ≤ 9223372036854775807) (hs2 : x.f1.f1.size ≤ 9223372036854775807) (h0 : 0 ≤ k) (h1 : k ≤ 1048576) : ∃ r, laws_szRoute.f x.f0 x.f1.f0 x.f1.f1 k = some r ∧ -1 ≤ r ∧ r ≤ k := by
 unfold laws_szRoute.f laws_szInterval.f
 rw [w64 (n := k - (x.f1.f0.size : Int)) (by omega) (by omega)]
 by_cases h : k - (x.f1.f0.size : Int) < 0
 ·rw [if_pos h, Option.bind_some, if_pos (by omega)]; exact ⟨_, rfl, by omega, by omega⟩
 ·rw [if_neg h, w64 (by omega) (by omega)]
  by_cases h2 : k - (x.f1.f0.size : Int) - (x.f1.f1.size : Int) < 0
  ·rw [if_pos h2, Option.bind_some, if_pos (by omega)]; exact ⟨_, rfl, by omega, by omega⟩
  ·rw [if_neg h2, Option.bind_some, if_neg (by omega)]; exact ⟨_, rfl, by omega, by omega⟩
theorem szRouteS_l0 (xs : List S39) (hx : xs.length ≤ 1048576) (hB : ∀ x ∈ xs, x.f1.f0.size ≤ 9223372036854775807 ∧ x.f1.f1.size ≤ 9223372036854775807) : ∀ (n : Nat) (i k : Int), i + n = xs.length → 0 ≤ i → 0 ≤ k → k ≤ 1048576 → ∃ r, laws_szRouteS.l0L xs k i = some r ∧ -1 ≤ r ∧ r ≤ k
 | 0, i, k, hi, h0, h1, h2 => by rw [laws_szRouteS.l0L_eq, if_neg (by omega)]; exact ⟨_, rfl, by omega, by omega⟩
 | n + 1, i, k, hi, h0, h1, h2 => by
  have hm : rd_T39 xs i ∈ xs := by
   unfold rd_T39
   rw [List.getD_eq_getElem?_getD, List.getElem?_eq_getElem (show i.toNat < xs.length by omega)]
   exact List.getElem_mem _
  obtain ⟨r, hr, r0, r1⟩ := szRoute_f (rd_T39 xs i) k (hB _ hm).1 (hB _ hm).2 h1 h2
  rw [laws_szRouteS.l0L_eq, if_pos (by omega), if_pos h0, hr, Option.bind_some, w64 (by omega) (by omega)]
  by_cases h : r < 0
  ·rw [if_pos h]; exact ⟨_, rfl, by omega, by omega⟩
  ·rw [if_neg h]
   obtain ⟨q, hq, hq1, hq2⟩ := szRouteS_l0 xs hx hB n (i + 1) r (by omega) (by omega) (by omega) (by omega)
   exact ⟨q, hq, by omega, by omega⟩
theorem szRouteS_f (xs : List S39) (k : Int) (h0 : 0 ≤ k) (h1 : k ≤ 1048576) (hl : xs.length ≤ 9223372036854775807) (hB : ∀ x ∈ xs, x.f1.f0.size ≤ 9223372036854775807 ∧ x.f1.f1.size ≤ 9223372036854775807) : ∃ r, laws_szRouteS.fL xs k = some r ∧ -1 ≤ r ∧ r ≤ k ∧ (r < 0 ∨ xs.length ≤ 1048576) := by
 rw [laws_szRouteS.fL_eq, w64 (by omega) (by omega)]
 by_cases h : k - (xs.length : Int) < 0
 ·rw [if_pos h]; exact ⟨_, rfl, by omega, by omega, .inl (by omega)⟩
 ·rw [if_neg h]
  obtain ⟨r, hr, r0, r1⟩ := szRouteS_l0 xs (by omega) hB xs.length 0 (k - xs.length) (by omega) (by omega) (by omega) (by omega)
  exact ⟨r, hr, by omega, by omega, .inr (by omega)⟩

end Go.Proofs.YtcciackemicbbaaDoor.Pure
