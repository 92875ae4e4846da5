/- Commands and entries applied, logs replayed: the program's functions and the reference's say the same. No condition. -/
import Derived.Test.YtlffjoabajdfnaaGreatPuCm
set_option linter.unusedVariables false
set_option linter.unusedSimpArgs false
namespace Go.Proofs.YtlffjoabajdfnaaGreat.Ev
open Go.Proofs.YtlffjoabajdfnaaGreat.Eng
open Go.RowKit (wrap64)
/-! ### One pair out, one pair in -/
theorem cut_all {α : Type} (xs : List α) (i : Nat) : cutList xs (i : Int) (xs.length : Int) = xs.drop i := by unfold cutList; simp
theorem cut_to {α : Type} (xs : List α) (i : Nat) : cutList xs 0 (i : Int) = xs.take i := by unfold cutList; simp
theorem spec_PairDrop_f (xs : List impl_Pair) (k : ByteArray) : spec_PairDrop xs k = some (((pairDrop xs k).1, ((pairDrop xs k).2, ())), ()) := by
  have hp := place_le k xs
  rw [spec_PairDrop_eq, spec_PairsValid_f, Option.bind_some]
  unfold pairDrop
  cases h1 : pairsOk xs with
  | false => simp
  | true =>
    have h48 := pairsOk_le h1
    rw [spec_l4Place_f xs k (by omega)]
    simp only [Bool.not_true, cond_false, Option.bind_some, if_true, cond_dec, ble_row (n := ([] : List impl_Pair).length + xs.length) (m := 24) (by simp; omega) (by omega), cond_true]
    by_cases e : (place k xs : Int) = (xs.length : Int)
    · have : ¬ hit k xs = true := fun h => by have := hit_lt h; omega
      rw [if_pos e, if_neg this]
    · rw [if_neg e, if_pos (by omega), if_pos (by omega), sEq_dec]
      by_cases e2 : (rdAt xs (Int.toNat (place k xs : Int)) z_impl_Pair).Key = k
      · have hh : hit k xs = true := decide_eq_true ⟨by omega, e2⟩
        rw [decide_eq_true e2, Bool.not_true, cond_false, w64 (by omega) (by omega), if_pos (by omega), if_pos (by omega), if_pos (by omega), if_pos (by omega), if_pos hh, cut_to, show (place k xs : Int) + 1 = ((place k xs + 1 : Nat) : Int) by omega, cut_all, ble_row (by simp; omega) (by omega), ble_row (by simp; omega) (by omega)]; rfl
      · have hh : ¬ hit k xs = true := fun h => e2 (hit_key h)
        rw [decide_eq_false e2, Bool.not_false, cond_true, if_neg hh]
theorem spec_PairPut_9_f (xs : List impl_Pair) (k : ByteArray) (v : Int) (hp : place k xs ≤ xs.length) (hx : xs.length ≤ 48) : spec_PairPut_9 xs k v (place k xs : Int) [] = some ((if 48 ≤ xs.length then (xs, (false, ())) else (xs.take (place k xs) ++ ⟨k, v⟩ :: xs.drop (place k xs), (true, ()))), ()) := by
  rw [spec_PairPut_9_eq]
  simp only [cond_dec, cut_to, cut_all]
  by_cases h4 : 48 ≤ xs.length
  · rw [if_pos (by omega), if_pos h4, ble_row (by simp; omega) (by omega)]; rfl
  · rw [if_neg (by omega), if_neg h4, if_pos (by omega), if_pos (by omega), if_pos (by omega), if_pos (by omega), ble_row (by simp; omega) (by omega), ble_row (by simp; omega) (by omega), ble_row (by simp; omega) (by omega)]
    simp
theorem spec_PairPut_f (xs : List impl_Pair) (k : ByteArray) (v : Int) : spec_PairPut xs k v = some (((pairPut xs k v).1, ((pairPut xs k v).2, ())), ()) := by
  rw [spec_PairPut_eq, spec_PairsValid_f, Option.bind_some, spec_KeyValid_f, Option.bind_some, spec_l1In_f, Option.bind_some]
  unfold pairPut
  cases h1 : pairsOk xs with
  | false => simp
  | true =>
    have h48 := pairsOk_le h1
    have hp := place_le k xs
    rw [spec_l4Place_f xs k (by omega)]
    cases h2 : keyOk k with
    | false => simp
    | true =>
      by_cases h3 : 0 ≤ v ∧ v ≤ 999
      · simp only [decide_eq_true h3, Bool.not_true, cond_false, Option.bind_some, cond_dec, spec_PairPut_9_f xs k v hp h48, ble_row (n := ([] : List impl_Pair).length + xs.length) (m := 24) (by simp; omega) (by omega), cond_true, sEq_dec]
        rw [if_pos (show True ∧ True ∧ 0 ≤ v ∧ v ≤ 999 from ⟨trivial, trivial, h3⟩)]
        have no : hit k xs = false → some ((if 48 ≤ xs.length then (xs, (false, ())) else (xs.take (place k xs) ++ ⟨k, v⟩ :: xs.drop (place k xs), (true, ()))), ()) =
            some (((if hit k xs = true then (xs.take (place k xs) ++ (⟨k, v⟩ : impl_Pair) :: xs.drop (place k xs + 1), true) else if 48 ≤ xs.length then (xs, false) else (xs.take (place k xs) ++ ⟨k, v⟩ :: xs.drop (place k xs), true)).1, ((if hit k xs = true then (xs.take (place k xs) ++ (⟨k, v⟩ : impl_Pair) :: xs.drop (place k xs + 1), true) else if 48 ≤ xs.length then (xs, false) else (xs.take (place k xs) ++ ⟨k, v⟩ :: xs.drop (place k xs), true)).2, ())), ()) := fun h => by
          rw [h, if_neg (show ¬ (false = true) by simp)]
          by_cases h4 : 48 ≤ xs.length
          · rw [if_pos h4, if_pos h4]
          · rw [if_neg h4, if_neg h4]
        by_cases e : (place k xs : Int) < (xs.length : Int)
        · simp only [if_pos e, if_pos (show (0 : Int) ≤ (place k xs : Int) by omega)]
          by_cases e2 : (rdAt xs (Int.toNat (place k xs : Int)) z_impl_Pair).Key = k
          · have hh : hit k xs = true := decide_eq_true ⟨by omega, e2⟩
            rw [if_pos e2, if_pos hh, e2, Int.toNat_natCast, set_split _ _ _ (hit_lt hh)]
          · rw [if_neg e2]
            exact no (decide_eq_false fun h => e2 h.2)
        · rw [if_neg e]
          exact no (decide_eq_false fun h => e (by omega))
      · rw [if_neg (fun h => h3 h.2.2), decide_eq_false h3]; simp
/-! ### A command applied -/
def applyC (l : List impl_Pair) (c : impl_Command) : List impl_Pair × Int :=
  if pairsOk l = true ∧ cmdOk c = true ∧ c.Kind ≠ 5 then
    (if c.Kind = 3 then ((pairDrop l c.Key).1, pairGet l c.Key) else
     if c.Kind = 1 ∨ (c.Kind = 4 ∧ c.Old ≠ pairGet l c.Key) then (l, pairGet l c.Key) else
     if pairGet l c.Key = -1 ∧ 8 ≤ l.length then (l, -2) else ((pairPut l c.Key c.Value).1, pairGet l c.Key))
  else ([], -3)
theorem pairGet_neg (l : List impl_Pair) (k : ByteArray) : pairGet l k < 0 ↔ pairGet l k = -1 := by
  unfold pairGet
  cases h1 : pairsOk l with
  | false => simp
  | true =>
    cases h : hit k l with
    | false => simp
    | true =>
      have := (pairsOk_key h1 _ (rd_mem (d := z_impl_Pair) (xs := l) (i := (place k l : Int)) (by omega) (by have := hit_lt h; omega))).2
      simp only [if_true]
      omega
theorem spec_ApplyCommand_f (l : List impl_Pair) (c : impl_Command) : spec_ApplyCommand l c = some (((applyC l c).1, ((applyC l c).2, ())), ()) := by
  rw [spec_ApplyCommand_eq, spec_PairsValid_f, Option.bind_some, spec_CommandValid_f, Option.bind_some]
  unfold applyC
  cases h1 : pairsOk l with
  | false => simp
  | true =>
    have h48 := pairsOk_le h1
    cases h2 : cmdOk c with
    | false => simp
    | true =>
      simp only [Bool.not_true, cond_false, cond_dec, spec_PairGet_f l c.Key (by omega), Option.bind_some, spec_PairDrop_f, ble_row (n := ([] : List impl_Pair).length + l.length) (m := 24) (by simp; omega) (by omega), cond_true, spec_PairPut_f, pairGet_neg]
      by_cases h5 : c.Kind = 5
      · rw [if_pos h5, if_neg (fun h => h.2.2 h5)]
      · rw [if_neg h5, if_pos (show True ∧ True ∧ c.Kind ≠ 5 from ⟨trivial, trivial, h5⟩)]
        have fin : ∀ x : Option ((List impl_Pair × Int × Unit) × Unit), (if pairGet l c.Key = -1 then if 8 ≤ (l.length : Int) then some ((l, (-2, ())), ()) else some (((pairPut l c.Key c.Value).1, (pairGet l c.Key, ())), ()) else some (((pairPut l c.Key c.Value).1, (pairGet l c.Key, ())), ())) = x → some (((if pairGet l c.Key = -1 ∧ 8 ≤ l.length then (l, -2) else ((pairPut l c.Key c.Value).1, pairGet l c.Key)).1, ((if pairGet l c.Key = -1 ∧ 8 ≤ l.length then (l, -2) else ((pairPut l c.Key c.Value).1, pairGet l c.Key)).2, ())), ()) = x := by
          intro x hx
          rw [← hx]
          by_cases g : pairGet l c.Key = -1
          · by_cases g2 : 8 ≤ l.length
            · rw [if_pos g, if_pos (show (8 : Int) ≤ (l.length : Int) by omega), if_pos (show pairGet l c.Key = -1 ∧ 8 ≤ l.length from ⟨g, g2⟩)]
            · rw [if_pos g, if_neg (show ¬ (8 : Int) ≤ (l.length : Int) by omega), if_neg (show ¬ (pairGet l c.Key = -1 ∧ 8 ≤ l.length) from fun h => g2 h.2)]
          · rw [if_neg g, if_neg (show ¬ (pairGet l c.Key = -1 ∧ 8 ≤ l.length) from fun h => g h.1)]
        by_cases k1 : c.Kind = 1
        · rw [if_pos k1, if_neg (show ¬ c.Kind = 3 by omega), if_pos (.inl k1)]
        · rw [if_neg k1]
          by_cases k4 : c.Kind = 4
          · rw [if_pos k4, if_neg (show ¬ c.Kind = 3 by omega), if_neg (show ¬ c.Kind = 3 by omega)]
            by_cases ko : c.Old = pairGet l c.Key
            · rw [decide_eq_true ko, Bool.not_true, cond_false, if_neg (show ¬ (c.Kind = 1 ∨ (c.Kind = 4 ∧ c.Old ≠ pairGet l c.Key)) from fun h => h.elim k1 fun h => h.2 ko)]
              exact (fin _ rfl).symm
            · rw [decide_eq_false ko, Bool.not_false, cond_true, if_pos (.inr ⟨k4, ko⟩)]
          · rw [if_neg k4, if_neg (show ¬ (c.Kind = 1 ∨ (c.Kind = 4 ∧ c.Old ≠ pairGet l c.Key)) from fun h => h.elim k1 fun h => k4 h.1)]
            by_cases h3 : c.Kind = 3
            · rw [if_pos h3, if_pos h3]
            · rw [if_neg h3, if_neg h3]
              exact (fin _ rfl).symm
theorem applyC_len (l : List impl_Pair) (c : impl_Command) : (applyC l c).1.length ≤ 48 := by
  unfold applyC
  split
  · rename_i h
    have := pairsOk_le h.1
    split
    · exact pairDrop_length _ _
    · split
      · exact this
      · split
        · exact this
        · exact pairPut_length _ _ _
  · simp
end Go.Proofs.YtlffjoabajdfnaaGreat.Ev
