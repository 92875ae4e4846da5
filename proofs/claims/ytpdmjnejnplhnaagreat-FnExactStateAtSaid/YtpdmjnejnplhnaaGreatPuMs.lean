/- States marked, and found so again. No condition. -/
import Derived.Test.YtpdmjnejnplhnaaGreatPuMt
set_option linter.unusedVariables false
set_option linter.unusedSimpArgs false
namespace Go.Proofs.YtpdmjnejnplhnaaGreat.Ev
open Go.Proofs.YtpdmjnejnplhnaaGreat.Eng
open Go.RowKit (wrap64)
noncomputable def elPair (k : Int) : impl_Pair := ⟨mt k, k + 1⟩
def elSession (k : Int) : impl_Session := ⟨k, k + 1, k + 1 + 1⟩
theorem markPairS_f (xs : List impl_Pair) (k : Int) (hx : xs.length ≤ 1000000000) (hk : 0 ≤ k) (hk2 : k ≤ 100000000000) : laws_markPairS xs k = some (k + 2 * xs.length, (marks elPair 2 xs.length k, ())) := by
  rw [laws_markPairS_eq]
  refine mark_loop0 elPair 2 (by omega) (by omega) xs hx k hk hk2 (fun k l => (k, (l, ()))) (fun zs k i => laws_markPairS_2 k i zs) (fun zs k i h0 h1 hl hk hk2 => ?_)
  rw [laws_markPairS_2_eq]
  by_cases h : i < (xs.length : Int)
  · have hz : i < (zs.length : Int) := by omega
    have hn : i.toNat < zs.length := by omega
    simp only [laws_markPairS_7_eq, cond_dec, if_pos hz, if_pos h0, List.length_set, w64 (n := k + 1) (by omega) (by omega), w64 (n := k + 1 + 1) (by omega) (by omega), w64 (n := i + 1) (by omega) (by omega), mt_eq k (by omega) (by omega), Option.bind_some, rd_set _ _ _ hn, List.set_set, if_pos h]
    rw [show k + 1 + 1 = k + 2 by omega]
    rfl
  · simp only [cond_dec, if_neg (show ¬ i < (zs.length : Int) by omega), if_neg h]
theorem heldPairS_f (n : Nat) (k : Int) (hn : n ≤ 1000000000) (hk : 0 ≤ k) (hk2 : k ≤ 100000000000) : laws_heldPairS (marks elPair 2 n k) k = some (k + 2 * n, ()) := by
  have hm := marks_length elPair 2 n k
  rw [laws_heldPairS_eq]
  refine held_loop0 elPair z_impl_Pair 2 (by omega) (by omega) n hn k hk hk2 (fun k => (k, ())) (fun k' i => laws_heldPairS_2 (marks elPair 2 n k) k' i) (fun k' i h0 h1 hk hk2 he => ?_)
  rw [laws_heldPairS_2_eq, hm]
  by_cases h : i < (n : Int)
  · simp only [cond_dec, if_pos h, if_pos h0, he h, w64 (n := k' + 1) (by omega) (by omega), w64 (n := k' + 1 + 1) (by omega) (by omega), w64 (n := i + 1) (by omega) (by omega), mt_eq k' (by omega) (by omega), Option.bind_some, elPair, sEq_dec, decide_true, Bool.not_true, cond_false]
    rw [show k' + 1 + 1 = k' + 2 by omega]
  · simp only [cond_dec, if_neg h]
theorem markSessionS_f (xs : List impl_Session) (k : Int) (hx : xs.length ≤ 1000000000) (hk : 0 ≤ k) (hk2 : k ≤ 100000000000) : laws_markSessionS xs k = some (k + 3 * xs.length, (marks elSession 3 xs.length k, ())) := by
  rw [laws_markSessionS_eq]
  refine mark_loop0 elSession 3 (by omega) (by omega) xs hx k hk hk2 (fun k l => (k, (l, ()))) (fun zs k i => laws_markSessionS_2 k i zs) (fun zs k i h0 h1 hl hk hk2 => ?_)
  rw [laws_markSessionS_2_eq]
  by_cases h : i < (xs.length : Int)
  · have hz : i < (zs.length : Int) := by omega
    have hn : i.toNat < zs.length := by omega
    simp only [laws_markSessionS_5_eq, laws_markSessionS_7_eq, laws_markSessionS_9_eq, cond_dec, if_pos hz, if_pos h0, List.length_set, w64 (n := k + 1) (by omega) (by omega), w64 (n := k + 1 + 1) (by omega) (by omega), w64 (n := k + 1 + 1 + 1) (by omega) (by omega), w64 (n := i + 1) (by omega) (by omega), Option.bind_some, rd_set _ _ _ hn, List.set_set, if_pos h]
    rw [show k + 1 + 1 + 1 = k + 3 by omega]
    rfl
  · simp only [cond_dec, if_neg (show ¬ i < (zs.length : Int) by omega), if_neg h]
theorem heldSessionS_f (n : Nat) (k : Int) (hn : n ≤ 1000000000) (hk : 0 ≤ k) (hk2 : k ≤ 100000000000) : laws_heldSessionS (marks elSession 3 n k) k = some (k + 3 * n, ()) := by
  have hm := marks_length elSession 3 n k
  rw [laws_heldSessionS_eq]
  refine held_loop0 elSession z_impl_Session 3 (by omega) (by omega) n hn k hk hk2 (fun k => (k, ())) (fun k' i => laws_heldSessionS_2 (marks elSession 3 n k) k' i) (fun k' i h0 h1 hk hk2 he => ?_)
  rw [laws_heldSessionS_2_eq, hm]
  by_cases h : i < (n : Int)
  · simp only [cond_dec, if_pos h, if_pos h0, he h, w64 (n := k' + 1) (by omega) (by omega), w64 (n := k' + 1 + 1) (by omega) (by omega), w64 (n := k' + 1 + 1 + 1) (by omega) (by omega), w64 (n := i + 1) (by omega) (by omega), Option.bind_some, elSession, decide_true, Bool.not_true, cond_false]
    rw [show k' + 1 + 1 + 1 = k' + 3 by omega]
  · simp only [cond_dec, if_neg h]
theorem markState_f (s : impl_State) (k : Int) (h1 : s.Pairs.length ≤ 1000000000) (h2 : s.Known.length ≤ 1000000000) (hk : 0 ≤ k) (hk2 : k ≤ 1000000000) :
    laws_markState s k = some (k + 2 * s.Pairs.length + 3 * s.Known.length, (impl_State.mk s.Span (marks elPair 2 s.Pairs.length k) (marks elSession 3 s.Known.length (k + 2 * s.Pairs.length)) s.Sealed s.Cut, ())) := by
  rw [laws_markState_eq, markPairS_f _ k h1 hk (by omega), Option.bind_some, markSessionS_f _ _ h2 (by first | omega | (dsimp only; omega)) (by first | omega | (dsimp only; omega))]; rfl
theorem heldState_f (a : impl_Interval) (n m : Nat) (b : Bool) (c : ByteArray) (k : Int) (h1 : n ≤ 1000000000) (h2 : m ≤ 1000000000) (hk : 0 ≤ k) (hk2 : k ≤ 1000000000) :
    laws_heldState (impl_State.mk a (marks elPair 2 n k) (marks elSession 3 m (k + 2 * n)) b c) k = some (k + 2 * n + 3 * m, ()) := by
  rw [laws_heldState_eq, heldPairS_f n k h1 hk (by omega), Option.bind_some, cond_dec, if_neg (by dsimp only; omega), heldSessionS_f m _ h2 (by first | omega | (dsimp only; omega)) (by first | omega | (dsimp only; omega)), Option.bind_some, cond_dec, if_neg (by dsimp only; omega)]
end Go.Proofs.YtpdmjnejnplhnaaGreat.Ev
