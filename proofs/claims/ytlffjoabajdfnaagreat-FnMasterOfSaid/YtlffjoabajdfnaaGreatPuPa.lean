/- Pairs: the order of keys, valid lists, where a key stands. No condition. -/
import Derived.Test.YtlffjoabajdfnaaGreatPuB
set_option linter.unusedVariables false
set_option linter.unusedSimpArgs false
namespace Go.Proofs.YtlffjoabajdfnaaGreat.Ev
open Go.Proofs.YtlffjoabajdfnaaGreat.Eng
open Go.RowKit (wrap64)
/-! ### The order of keys -/
theorem bless_irrefl : ∀ x : List UInt8, Op.bytesLess x x = false
  | [] => by simp [Op.bytesLess]
  | a :: x => by simp [Op.bytesLess, bless_irrefl x, UInt8.lt_irrefl]
theorem bless_total : ∀ x y : List UInt8, Op.bytesLess x y = false → Op.bytesLess y x = false → x = y
  | [], [], _, _ => rfl
  | [], b :: y, h, _ => by simp [Op.bytesLess] at h
  | a :: x, [], _, h => by simp [Op.bytesLess] at h
  | a :: x, b :: y, h, h2 => by
    simp only [Op.bytesLess, Bool.or_eq_false_iff, decide_eq_false_iff_not, Bool.and_eq_false_iff] at h h2
    have e : a = b := by
      apply UInt8.toNat_inj.1
      have h1 : ¬ a.toNat < b.toNat := fun c => h.1 (UInt8.lt_iff_toNat_lt.2 c)
      have h3 : ¬ b.toNat < a.toNat := fun c => h2.1 (UInt8.lt_iff_toNat_lt.2 c)
      omega
    subst e
    have hx : Op.bytesLess x y = false := by rcases h.2 with h | h; · simp at h
                                             · exact h
    have hy : Op.bytesLess y x = false := by rcases h2.2 with h | h; · simp at h
                                             · exact h
    rw [bless_total x y hx hy]
theorem bless_trans : ∀ x y z : List UInt8, Op.bytesLess x y = true → Op.bytesLess y z = true → Op.bytesLess x z = true
  | [], _, [], h, h2 => by cases h2' : Op.bytesLess ([] : List UInt8) [] <;> simp_all [Op.bytesLess]
  | [], _, c :: z, _, _ => by simp [Op.bytesLess]
  | a :: x, [], _, h, _ => by simp [Op.bytesLess] at h
  | a :: x, b :: y, [], _, h => by simp [Op.bytesLess] at h
  | a :: x, b :: y, c :: z, h, h2 => by
    simp only [Op.bytesLess, Bool.or_eq_true, decide_eq_true_eq, Bool.and_eq_true, beq_iff_eq] at h h2 ⊢
    simp only [UInt8.lt_iff_toNat_lt] at h h2 ⊢
    rcases h with h | ⟨e, h⟩
    · rcases h2 with h2 | ⟨e2, h2⟩
      · left; omega
      · left; subst e2; exact h
    · rcases h2 with h2 | ⟨e2, h2⟩
      · left; subst e; exact h2
      · right; exact ⟨e.trans e2, bless_trans x y z h h2⟩
theorem sLt_tr {a b c : ByteArray} (h : sLt a b = true) (h2 : sLt b c = true) : sLt a c = true := bless_trans _ _ _ h h2
theorem sLt_irrefl (a : ByteArray) : sLt a a = false := bless_irrefl _
theorem sLt_total {a b : ByteArray} (h : sLt a b = false) (h2 : sLt b a = false) : a = b := (toList_eq_iff a b).1 (bless_total _ _ h h2)
theorem sLt_asym {a b : ByteArray} (h : sLt a b = true) : sLt b a = false := by
  cases e : sLt b a with
  | false => rfl
  | true => have := sLt_tr h e; rw [sLt_irrefl] at this; cases this
theorem sLe_not (a b : ByteArray) : (sLt a b || sEq a b) = !sLt b a := by
  rw [sEq_dec]
  cases h : sLt a b with
  | true => rw [sLt_asym h]; rfl
  | false =>
    cases h2 : sLt b a with
    | true =>
      have : a ≠ b := fun e => by rw [e, sLt_irrefl] at h2; cases h2
      simp [this]
    | false => simp [sLt_total h h2]
/-! ### Pairs -/
def pairItem (y : impl_Pair) : Bool := keyOk y.Key && decide (0 ≤ y.Value ∧ y.Value ≤ 999)
def above : Option ByteArray → ByteArray → Bool
  | none, _ => true
  | some q, k => sLt q k
def pairsFrom : Option ByteArray → List impl_Pair → Bool
  | _, [] => true
  | p, y :: ys => pairItem y && above p y.Key && pairsFrom (some y.Key) ys
def pairsOk (l : List impl_Pair) : Bool := decide (l.length ≤ 48) && pairsFrom none l
def place (k : ByteArray) : List impl_Pair → Nat
  | [] => 0
  | y :: ys => if sLt y.Key k = true then place k ys + 1 else 0
theorem place_le (k : ByteArray) : ∀ l, place k l ≤ l.length
  | [] => Nat.le_refl _
  | y :: ys => by
    have := place_le k ys
    simp only [place, List.length_cons]
    split <;> omega
def hit (k : ByteArray) (l : List impl_Pair) : Bool := decide (place k l < l.length ∧ (rdAt l (Int.toNat (place k l : Int)) z_impl_Pair).Key = k)
theorem hit_lt {k : ByteArray} {l : List impl_Pair} (h : hit k l = true) : place k l < l.length := (of_decide_eq_true h).1
theorem hit_key {k : ByteArray} {l : List impl_Pair} (h : hit k l = true) : (rdAt l (Int.toNat (place k l : Int)) z_impl_Pair).Key = k := (of_decide_eq_true h).2
def pairGet (l : List impl_Pair) (k : ByteArray) : Int := if pairsOk l = true then (if hit k l = true then (rdAt l (Int.toNat (place k l : Int)) z_impl_Pair).Value else -1) else -1
def pairDrop (l : List impl_Pair) (k : ByteArray) : List impl_Pair × Bool := if pairsOk l = true then (if hit k l = true then (l.take (place k l) ++ l.drop (place k l + 1), true) else (l, false)) else ([], false)
def pairPut (l : List impl_Pair) (k : ByteArray) (v : Int) : List impl_Pair × Bool :=
  if pairsOk l = true ∧ keyOk k = true ∧ 0 ≤ v ∧ v ≤ 999 then
    (if hit k l = true then (l.take (place k l) ++ ⟨k, v⟩ :: l.drop (place k l + 1), true) else if 48 ≤ l.length then (l, false) else (l.take (place k l) ++ ⟨k, v⟩ :: l.drop (place k l), true))
  else ([], false)
theorem pairsOk_le {l : List impl_Pair} (h : pairsOk l = true) : l.length ≤ 48 := by
  simp only [pairsOk, Bool.and_eq_true, decide_eq_true_eq] at h; exact h.1
theorem pairPut_length (l : List impl_Pair) (k : ByteArray) (v : Int) : (pairPut l k v).1.length ≤ 48 := by
  unfold pairPut
  split
  · rename_i h
    have h1 := pairsOk_le h.1
    have h2 := place_le k l
    split
    · rename_i h3
      have := hit_lt h3
      simp; omega
    · split
      · exact h1
      · simp; omega
  · simp
theorem pairDrop_length (l : List impl_Pair) (k : ByteArray) : (pairDrop l k).1.length ≤ 48 := by
  unfold pairDrop
  split
  · rename_i h
    have h1 := pairsOk_le h
    split
    · simp; omega
    · exact h1
  · simp
theorem set_split {α : Type} (y : α) : ∀ (l : List α) (n : Nat), n < l.length → l.set n y = l.take n ++ y :: l.drop (n + 1)
  | [], n, h => by simp at h
  | x :: l, 0, h => by simp
  | x :: l, n + 1, h => by simp at h; simp [set_split y l n h]
theorem impl_valueValid_f (v : Int) : impl_valueValid v = some (decide (0 ≤ v ∧ v ≤ 999), ()) := by
  rw [impl_valueValid_eq, cond_dec]
  by_cases h : 0 ≤ v
  · rw [if_pos h, Bool.decide_and, decide_eq_true h]; rfl
  · rw [if_neg h, decide_eq_false (by omega)]
theorem spec_PairsValid_l (xs : List impl_Pair) (hx : xs.length ≤ 48) : ∀ (ys : List impl_Pair) (i : Int) (p : Option ByteArray), 0 ≤ i → i ≤ xs.length → xs.drop i.toNat = ys → (i = 0 → p = none) → (0 < i → p = some (rdAt xs (Int.toNat (i - 1)) z_impl_Pair).Key) → spec_PairsValid_4 xs i = some (pairsFrom p ys, ())
  | [], i, p, h0, h1, hd, hp0, hp1 => by
    have := drop_nil h0 h1 hd
    rw [spec_PairsValid_4_eq, cond_dec, if_neg (by omega)]; rfl
  | y :: ys, i, p, h0, h1, hd, hp0, hp1 => by
    obtain ⟨hr, hl, hd'⟩ := rd_drop (d := z_impl_Pair) h0 hd
    have hnext := spec_PairsValid_l xs hx ys (i + 1) (some y.Key) (by omega) (by omega) hd' (fun h => by omega) (fun _ => by rw [show i + 1 - 1 = i by omega, hr])
    rw [spec_PairsValid_4_eq]
    simp only [cond_dec, if_pos hl, if_pos h0, hr, spec_KeyValid_f, Option.bind_some, spec_l1In_f, w64 (n := i - 1) (by omega) (by omega), w64 (n := i + 1) (by omega) (by omega), pairsFrom, pairItem, hnext, sLe_not]
    cases hk : keyOk y.Key with
    | false => simp
    | true =>
      by_cases hv : 0 ≤ y.Value ∧ y.Value ≤ 999
      · rw [decide_eq_true hv]
        by_cases hi : 0 < i
        · simp only [if_pos hi, if_pos (show 0 ≤ i - 1 by omega), if_pos (show i - 1 < (xs.length : Int) by omega), hp1 hi, above]
          cases sLt (rdAt xs (Int.toNat (i - 1)) z_impl_Pair).Key y.Key <;> simp
        · simp only [if_neg hi, hp0 (by omega), above]; simp
      · rw [decide_eq_false hv]; simp
theorem spec_PairsValid_f (xs : List impl_Pair) : spec_PairsValid xs = some (pairsOk xs, ()) := by
  rw [spec_PairsValid_eq, cond_dec]
  unfold pairsOk
  by_cases h : 48 < (xs.length : Int)
  · rw [if_pos h, decide_eq_false (by omega)]; rfl
  · rw [if_neg h, decide_eq_true (by omega), spec_PairsValid_l xs (by omega) xs 0 none (by omega) (by omega) rfl (fun _ => rfl) (fun h => by omega)]; rfl
theorem impl_PairsValid_l (xs : List impl_Pair) (hx : xs.length ≤ 48) : ∀ (ys : List impl_Pair) (i : Int) (p : Option ByteArray), 0 ≤ i → i ≤ xs.length → xs.drop i.toNat = ys → (i = 0 → p = none) → (0 < i → p = some (rdAt xs (Int.toNat (i - 1)) z_impl_Pair).Key) → impl_PairsValid_4 xs xs (xs.length : Int) i = some (pairsFrom p ys, ())
  | [], i, p, h0, h1, hd, hp0, hp1 => by
    have := drop_nil h0 h1 hd
    rw [impl_PairsValid_4_eq, cond_dec, if_neg (by omega)]; rfl
  | y :: ys, i, p, h0, h1, hd, hp0, hp1 => by
    obtain ⟨hr, hl, hd'⟩ := rd_drop (d := z_impl_Pair) h0 hd
    have hnext := impl_PairsValid_l xs hx ys (i + 1) (some y.Key) (by omega) (by omega) hd' (fun h => by omega) (fun _ => by rw [show i + 1 - 1 = i by omega, hr])
    rw [impl_PairsValid_4_eq]
    simp only [cond_dec, if_pos hl, if_pos h0, hr, impl_KeyValid_f, Option.bind_some, impl_valueValid_f, w64 (n := i - 1) (by omega) (by omega), w64 (n := i + 1) (by omega) (by omega), pairsFrom, pairItem, hnext]
    cases hk : keyOk y.Key with
    | false => simp
    | true =>
      by_cases hv : 0 ≤ y.Value ∧ y.Value ≤ 999
      · rw [decide_eq_true hv]
        by_cases hi : 0 < i
        · simp only [if_pos hi, if_pos (show 0 ≤ i - 1 by omega), if_pos (show i - 1 < (xs.length : Int) by omega), hp1 hi, above]
          cases sLt (rdAt xs (Int.toNat (i - 1)) z_impl_Pair).Key y.Key <;> simp
        · simp only [if_neg hi, hp0 (by omega), above]; simp
      · rw [decide_eq_false hv]; simp
theorem impl_PairsValid_f (xs : List impl_Pair) : impl_PairsValid xs = some (pairsOk xs, ()) := by
  rw [impl_PairsValid_eq, cond_dec]
  unfold pairsOk
  by_cases h : 48 < (xs.length : Int)
  · rw [if_pos h, decide_eq_false (by omega)]; rfl
  · rw [if_neg h, decide_eq_true (by omega), impl_PairsValid_l xs (by omega) xs 0 none (by omega) (by omega) rfl (fun _ => rfl) (fun h => by omega)]; rfl
theorem spec_l4Place_l (xs : List impl_Pair) (k : ByteArray) (hx : xs.length ≤ 1000000000000) : ∀ (ys : List impl_Pair) (i : Int), 0 ≤ i → i ≤ xs.length → xs.drop i.toNat = ys → spec_l4Place_2 xs k i = some (i + (place k ys : Int), ())
  | [], i, h0, h1, hd => by
    have := drop_nil h0 h1 hd
    rw [spec_l4Place_2_eq, cond_dec, if_neg (by omega)]; simp [place]
  | y :: ys, i, h0, h1, hd => by
    obtain ⟨hr, hl, hd'⟩ := rd_drop (d := z_impl_Pair) h0 hd
    rw [spec_l4Place_2_eq]
    simp only [cond_dec, if_pos hl, if_pos h0, hr, w64 (n := i + 1) (by omega) (by omega), spec_l4Place_l xs k hx ys (i + 1) (by omega) (by omega) hd', place]
    cases h : sLt y.Key k with
    | true => rw [if_pos rfl]; simp only [cond_true, Option.some.injEq, Prod.mk.injEq, and_true]; omega
    | false => rw [if_neg (by simp)]; simp
theorem spec_l4Place_f (xs : List impl_Pair) (k : ByteArray) (hx : xs.length ≤ 1000000000000) : spec_l4Place xs k = some ((place k xs : Int), ()) := by
  rw [spec_l4Place_eq, spec_l4Place_l xs k hx xs 0 (by omega) (by omega) rfl, Int.zero_add]
theorem spec_PairGet_f (xs : List impl_Pair) (k : ByteArray) (hx : xs.length ≤ 1000000000000) : spec_PairGet xs k = some (pairGet xs k, ()) := by
  have hp := place_le k xs
  rw [spec_PairGet_eq, spec_l4Place_f xs k hx, Option.bind_some, spec_PairsValid_f, Option.bind_some]
  unfold pairGet
  cases h1 : pairsOk xs with
  | false => simp
  | true =>
    simp only [Bool.not_true, cond_false, cond_dec, if_true]
    by_cases e : (place k xs : Int) = (xs.length : Int)
    · have : ¬ hit k xs = true := fun h => by have := hit_lt h; omega
      rw [if_pos e, if_neg this]
    · rw [if_neg e, if_pos (by omega), if_pos (by omega), sEq_dec]
      by_cases e2 : (rdAt xs (Int.toNat (place k xs : Int)) z_impl_Pair).Key = k
      · have hh : hit k xs = true := decide_eq_true ⟨by omega, e2⟩
        rw [decide_eq_true e2, if_pos (by omega), if_pos (by omega), if_pos hh]; rfl
      · have hh : ¬ hit k xs = true := fun h => e2 (hit_key h)
        rw [decide_eq_false e2, if_neg hh]; rfl
/-! ### Searching by halves -/
def cmpS (a b : ByteArray) : Int := if sLt a b = true then -1 else if sLt b a = true then 1 else 0
theorem cmp_Compare_string_f (a b : ByteArray) : cmp_Compare_string a b = some (cmpS a b, ()) := by
  have h : ∀ s : ByteArray, cmp_isNaN_string s = some (false, ()) := fun s => by rw [cmp_isNaN_string_eq, sEq_dec]; simp
  rw [cmp_Compare_string_eq, h, h]
  simp only [Option.bind_some, cond_false, sLe_not, Bool.not_not]
  unfold cmpS
  cases sLt a b <;> cases sLt b a <;> rfl
theorem cmpS_lt (a b : ByteArray) : cmpS a b < 0 ↔ sLt a b = true := by
  unfold cmpS
  constructor
  · intro h
    by_cases c : sLt a b = true
    · exact c
    · rw [if_neg c] at h; split at h <;> omega
  · intro h; rw [if_pos h]; omega
theorem rd_eq' {α : Type} {d : α} {xs : List α} {i : Int} (h : i.toNat < xs.length) : rdAt xs i.toNat d = xs[i.toNat] := by
  simp [rdAt, h]
end Go.Proofs.YtlffjoabajdfnaaGreat.Ev
