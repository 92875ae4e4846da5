/- Marks: their texts, routes, masters. No condition. -/
import Derived.Test.YtoiddibdlmcecaaGreatPuLy
import Derived.Test.YtoiddibdlmcecaaGreatPuTo
set_option linter.unusedVariables false
set_option linter.unusedSimpArgs false
namespace Go.Proofs.YtoiddibdlmcecaaGreat.Ev
open Go.Proofs.YtoiddibdlmcecaaGreat.Eng
open Go.RowKit (wrap64)

/-! ### Marks' texts -/
theorem son_size (xs : List Int) : (strOfInts xs).size = xs.length := by simp [strOfInts, ByteArray.size]
theorem markText_l : ∀ (n : Nat) (k : Int) (s : ByteArray), 0 ≤ k → k < 10 ^ n → k ≤ 9223372036854775807 → s.size + n ≤ 1000 → ∃ r, laws_markText_4 k s = some r
  | 0, k, s, h0, h1, h2, hs => by
    have h1 : k < 1 := by simpa using h1
    have hl : (lit [109]).size = 1 := rfl
    rw [laws_markText_4_eq]
    simp only [cond_dec]
    rw [if_neg (show ¬ 0 < k by omega), if_pos (by omega)]; exact ⟨_, rfl⟩
  | n + 1, k, s, h0, h1, h2, hs => by
    have hl : (lit [109]).size = 1 := rfl
    rw [laws_markText_4_eq]
    simp only [cond_dec]
    by_cases e : 0 < k
    · have hd : Int.tdiv k 10 = k / 10 := Int.tdiv_eq_ediv_of_nonneg h0
      have hp : (10 : Int) ^ (n + 1) = 10 ^ n * 10 := Int.pow_succ 10 n
      have h3 : k / 10 < 10 ^ n := by omega
      rw [if_pos e, if_pos (by rw [son_size]; simp; omega), hd, w64 (n := k / 10) (by omega) (by omega)]
      exact markText_l n (k / 10) _ (by omega) h3 (by omega) (by rw [ByteArray.size_append, son_size]; simp; omega)
    · rw [if_neg e, if_pos (by omega)]; exact ⟨_, rfl⟩
theorem markText_ok (k : Int) (h0 : 0 ≤ k) (h1 : k ≤ 9223372036854775807) : ∃ r, laws_markText k = some r := by
  rw [laws_markText_eq, cond_dec]
  by_cases e : k ≤ 0
  · rw [if_pos e]; exact ⟨_, rfl⟩
  · rw [if_neg e]; exact markText_l 30 k _ h0 (by omega) h1 (show 0 + 30 ≤ 1000 by omega)
/-- The text of a mark. -/
noncomputable def mt (k : Int) : ByteArray := ((laws_markText k).getD (es, ())).1
theorem mt_eq (k : Int) (h0 : 0 ≤ k) (h1 : k ≤ 9223372036854775807) : laws_markText k = some (mt k, ()) := by
  obtain ⟨r, hr⟩ := markText_ok k h0 h1
  unfold mt
  rw [hr]; rfl

/-- A marked route. -/
noncomputable def elRoute (k : Int) : impl_Route := ⟨k, ⟨mt (k + 1), mt (k + 1 + 1)⟩⟩
theorem markRouteS_f (xs : List impl_Route) (k : Int) (hx : xs.length ≤ 1000000000) (hk : 0 ≤ k) (hk2 : k ≤ 100000000000) : laws_markRouteS xs k = some (k + 3 * xs.length, (marks elRoute 3 xs.length k, ())) := by
  rw [laws_markRouteS_eq]
  refine mark_loop0 elRoute 3 (by omega) (by omega) xs hx k hk hk2 (fun k l => (k, (l, ()))) (fun zs k i => laws_markRouteS_2 k i zs) (fun zs k i h0 h1 hl hk hk2 => ?_)
  rw [laws_markRouteS_2_eq]
  by_cases h : i < (xs.length : Int)
  · have hz : i < (zs.length : Int) := by omega
    have hn : i.toNat < zs.length := by omega
    simp only [cond_dec, if_pos hz, if_pos h0, List.length_set, w64 (n := k + 1) (by omega) (by omega), w64 (n := k + 1 + 1) (by omega) (by omega), w64 (n := k + 1 + 1 + 1) (by omega) (by omega), w64 (n := i + 1) (by omega) (by omega), mt_eq (k + 1) (by omega) (by omega), mt_eq (k + 1 + 1) (by omega) (by omega), Option.bind_some,
      rd_set _ _ _ hn, List.set_set, if_pos h]
    simp only [laws_markRouteS_7_eq, laws_markRouteS_9_eq, cond_dec, List.length_set, if_pos hz, if_pos h0, w64 (n := k + 1 + 1) (by omega) (by omega), w64 (n := k + 1 + 1 + 1) (by omega) (by omega), w64 (n := i + 1) (by omega) (by omega), mt_eq (k + 1 + 1) (by omega) (by omega), Option.bind_some, rd_set _ _ _ hn, List.set_set]
    rw [show k + 1 + 1 + 1 = k + 3 by omega]
    rfl
  · simp only [cond_dec, if_neg (show ¬ i < (zs.length : Int) by omega), if_neg h]
theorem heldRouteS_f (n : Nat) (k : Int) (hn : n ≤ 1000000000) (hk : 0 ≤ k) (hk2 : k ≤ 100000000000) : laws_heldRouteS (marks elRoute 3 n k) k = some (k + 3 * n, ()) := by
  have hm := marks_length elRoute 3 n k
  rw [laws_heldRouteS_eq]
  refine held_loop0 elRoute z_impl_Route 3 (by omega) (by omega) n hn k hk hk2 (fun k => (k, ())) (fun k' i => laws_heldRouteS_2 (marks elRoute 3 n k) k' i) (fun k' i h0 h1 hk hk2 he => ?_)
  rw [laws_heldRouteS_2_eq, hm]
  by_cases h : i < (n : Int)
  · simp only [cond_dec, if_pos h, if_pos h0, he h, w64 (n := k' + 1) (by omega) (by omega), w64 (n := k' + 1 + 1) (by omega) (by omega), w64 (n := k' + 1 + 1 + 1) (by omega) (by omega), w64 (n := i + 1) (by omega) (by omega), mt_eq (k' + 1) (by omega) (by omega), mt_eq (k' + 1 + 1) (by omega) (by omega), Option.bind_some, elRoute, sEq_dec, decide_true, Bool.not_true, cond_false]
    rw [show k' + 1 + 1 + 1 = k' + 3 by omega]
  · simp only [cond_dec, if_neg h]
theorem markMaster_f (m : impl_Master) (k : Int) (hx : m.Routes.length ≤ 1000000000) (hk : 0 ≤ k) (hk2 : k ≤ 100000000000) :
    laws_markMaster m k = some (k + 3 * m.Routes.length, (impl_Master.mk (marks elRoute 3 m.Routes.length k) m.Shards m.Work m.Turn, ())) := by
  rw [laws_markMaster_eq, markRouteS_f _ _ hx hk hk2]; rfl
theorem heldMaster_f (n : Nat) (a : Int) (b : impl_Plan) (c : Int) (k : Int) (hn : n ≤ 1000000000) (hk : 0 ≤ k) (hk2 : k ≤ 100000000000) : laws_heldMaster (impl_Master.mk (marks elRoute 3 n k) a b c) k = some (k + 3 * n, ()) := by
  rw [laws_heldMaster_eq, heldRouteS_f n k hn hk hk2, Option.bind_some, cond_dec, if_neg (by dsimp only; omega)]
end Go.Proofs.YtoiddibdlmcecaaGreat.Ev
