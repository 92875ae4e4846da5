/- Marks: their texts, routes, masters. No condition. -/
import Derived.Test.YtpdmjnejnplhnaaGreatPuTo
set_option linter.unusedVariables false
set_option linter.unusedSimpArgs false
namespace Go.Proofs.YtpdmjnejnplhnaaGreat.Ev
open Go.Proofs.YtpdmjnejnplhnaaGreat.Eng
open Go.RowKit (wrap64)

/-! ### Marks' texts -/
theorem son_size (xs : List Int) : (strOfInts xs).size = xs.length := by simp [strOfInts, ByteArray.size]
theorem markText_l : ∀ (n : Nat) (k : Int) (s : ByteArray), 0 ≤ k → k < 10 ^ n → k ≤ 9223372036854775807 → s.size + n ≤ 1000 → ∃ r, laws_markText_4 k s = some r
  | 0, k, s, h0, h1, h2, hs => by
    have h1 : k < 1 := by simpa using h1
    have hl : (lit [109]).size = 1 := rfl
    rw [laws_markText_4_eq]
    simp only [cond_dec]
    rw [if_neg (show ¬ 0 < k by omega), if_pos (by omega)]; exact ⟨_, rfl⟩
  | n + 1, k, s, h0, h1, h2, hs => by
    have hl : (lit [109]).size = 1 := rfl
    rw [laws_markText_4_eq]
    simp only [cond_dec]
    by_cases e : 0 < k
    · have hd : Int.tdiv k 10 = k / 10 := Int.tdiv_eq_ediv_of_nonneg h0
      have hp : (10 : Int) ^ (n + 1) = 10 ^ n * 10 := Int.pow_succ 10 n
      have h3 : k / 10 < 10 ^ n := by omega
      rw [if_pos e, if_pos (by rw [son_size]; simp; omega), hd, w64 (n := k / 10) (by omega) (by omega)]
      exact markText_l n (k / 10) _ (by omega) h3 (by omega) (by rw [ByteArray.size_append, son_size]; simp; omega)
    · rw [if_neg e, if_pos (by omega)]; exact ⟨_, rfl⟩
theorem markText_ok (k : Int) (h0 : 0 ≤ k) (h1 : k ≤ 9223372036854775807) : ∃ r, laws_markText k = some r := by
  rw [laws_markText_eq, cond_dec]
  by_cases e : k ≤ 0
  · rw [if_pos e]; exact ⟨_, rfl⟩
  · rw [if_neg e]; exact markText_l 30 k _ h0 (by omega) h1 (show 0 + 30 ≤ 1000 by omega)
/-- The text of a mark. -/
noncomputable def mt (k : Int) : ByteArray := ((laws_markText k).getD (es, ())).1
theorem mt_eq (k : Int) (h0 : 0 ≤ k) (h1 : k ≤ 9223372036854775807) : laws_markText k = some (mt k, ()) := by
  obtain ⟨r, hr⟩ := markText_ok k h0 h1
  unfold mt
  rw [hr]; rfl

end Go.Proofs.YtpdmjnejnplhnaaGreat.Ev
