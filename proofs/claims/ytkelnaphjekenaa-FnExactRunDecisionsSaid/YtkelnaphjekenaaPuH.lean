/- RunDecisions, of the program and of the reference, and the laws' functions on lists of decisions. No condition. -/
import Derived.Test.YtkelnaphjekenaaPuG
set_option linter.unusedVariables false
set_option linter.unusedSimpArgs false
namespace Go.Proofs.Ytkelnaphjekenaa.Ev
open Go.Proofs.Ytkelnaphjekenaa.Eng
open Go.RowKit (wrap64)

theorem fin_ok {x : Bool} {a b : impl_Master} (h : (fin x a b).2.1 = true) : masterOk (fin x a b).1 = true := by
  unfold fin at h ⊢
  by_cases c : x = true ∧ masterOk b = true
  · rw [if_pos c]; exact c.2
  · rw [if_neg c] at h; exact absurd h (by simp)
theorem applyR_ok {m : impl_Master} {d : impl_Decision} (h : (applyR m d).2.1 = true) : masterOk (applyR m d).1 = true := by
  unfold applyR at h ⊢
  split at h
  · exact absurd h (by simp)
  · rename_i h1
    rw [if_neg h1]
    split at h
    · rename_i h2; rw [if_pos h2]; exact fin_ok h
    · rename_i h2
      rw [if_neg h2]
      split at h
      · rename_i h3; rw [if_pos h3]; exact fin_ok h
      · rename_i h3
        rw [if_neg h3]
        split at h
        · rename_i h4; rw [if_pos h4]; exact fin_ok h
        · rename_i h4
          rw [if_neg h4]
          split at h
          · rename_i h5; rw [if_pos h5]; exact fin_ok h
          · rename_i h5
            rw [if_neg h5]
            split at h
            · rename_i h6; rw [if_pos h6]; exact fin_ok h
            · exact absurd h (by simp)
def runL : List impl_Decision → impl_Master → impl_Master × Bool × Unit
  | [], m => (m, true, ())
  | d :: ds, m => if (applyR m d).2.1 = true then runL ds (applyR m d).1 else (zMaster, false, ())
abbrev newM : impl_Master := impl_Master.mk [z_impl_Route] 1 zPlan 0
def runR (l : List impl_Decision) : impl_Master × Bool × Unit := if 60 < l.length then (zMaster, false, ()) else runL l newM
theorem impl_run_l (xs : List impl_Decision) (hx : xs.length ≤ 60) : ∀ (ys : List impl_Decision) (i : Int) (s0 s1 : impl_Master) (s2 s3 : List impl_Route), 0 ≤ i → i ≤ xs.length → xs.drop i.toNat = ys → s3.length ≤ 1000000000 →
    impl_RunDecisions_5 xs (xs.length : Int) i s0 s1 s2 s3 = some (runL ys (impl_Master.mk s3 s1.Shards s1.Work s1.Turn), ())
  | [], i, s0, s1, s2, s3, h0, h1, h, hl => by
    have := drop_nil h0 h1 h
    rw [impl_RunDecisions_5_eq, cond_dec, if_neg (by omega)]; rfl
  | y :: ys, i, s0, s1, s2, s3, h0, h1, h, hl => by
    obtain ⟨hr, hi, ht⟩ := rd_drop (d := z_impl_Decision) h0 h
    rw [impl_RunDecisions_5_eq]
    simp only [cond_dec, if_pos hi, if_pos h0, hr, w64 (n := i + 1) (by omega) (by omega)]
    rw [impl_ApplyDecision_f _ _ hl, Option.bind_some]
    unfold runL
    cases hk : (applyR (impl_Master.mk s3 s1.Shards s1.Work s1.Turn) y).2.1 with
    | false => simp
    | true =>
      have hm := masterOk_len (applyR_ok hk)
      simp only [Bool.not_true, cond_false, if_true]
      exact impl_run_l xs hx ys (i + 1) _ _ _ _ (by omega) (by omega) ht (by omega)
theorem spec_run_l (xs : List impl_Decision) (hx : xs.length ≤ 60) : ∀ (ys : List impl_Decision) (i : Int) (s0 s1 : impl_Master) (s2 s3 : List impl_Route), 0 ≤ i → i ≤ xs.length → xs.drop i.toNat = ys → s3.length ≤ 1000000000 →
    spec_RunDecisions_5 xs i s0 s1 s2 s3 = some (runL ys (impl_Master.mk s3 s1.Shards s1.Work s1.Turn), ())
  | [], i, s0, s1, s2, s3, h0, h1, h, hl => by
    have := drop_nil h0 h1 h
    rw [spec_RunDecisions_5_eq, cond_dec, if_neg (by omega)]; rfl
  | y :: ys, i, s0, s1, s2, s3, h0, h1, h, hl => by
    obtain ⟨hr, hi, ht⟩ := rd_drop (d := z_impl_Decision) h0 h
    rw [spec_RunDecisions_5_eq]
    simp only [cond_dec, if_pos hi, if_pos h0, hr, w64 (n := i + 1) (by omega) (by omega)]
    rw [spec_ApplyDecision_f _ _ hl, Option.bind_some]
    unfold runL
    cases hk : (applyR (impl_Master.mk s3 s1.Shards s1.Work s1.Turn) y).2.1 with
    | false => simp
    | true =>
      have hm := masterOk_len (applyR_ok hk)
      simp only [Bool.not_true, cond_false, if_true]
      exact spec_run_l xs hx ys (i + 1) _ _ _ _ (by omega) (by omega) ht (by omega)
theorem impl_NewMaster_f : impl_NewMaster = some (newM, ()) := impl_NewMaster_eq
theorem spec_NewMaster_f : spec_NewMaster = some (newM, ()) := spec_NewMaster_eq
theorem impl_RunDecisions_f (l : List impl_Decision) : impl_RunDecisions l = some (runR l, ()) := by
  rw [impl_RunDecisions_eq, cond_dec]
  unfold runR
  by_cases h : 60 < l.length
  · rw [if_pos (by omega), if_pos h]
  · rw [if_neg (by omega), if_neg h, impl_NewMaster_f, Option.bind_some, impl_run_l l (by omega) l 0 _ _ _ _ (by omega) (by omega) rfl (by simp)]
theorem spec_RunDecisions_f (l : List impl_Decision) : spec_RunDecisions l = some (runR l, ()) := by
  rw [spec_RunDecisions_eq, spec_NewMaster_f, Option.bind_some, cond_dec]
  unfold runR
  by_cases h : 60 < l.length
  · rw [if_pos (by omega), if_pos h]
  · rw [if_neg (by omega), if_neg h, spec_run_l l (by omega) l 0 _ _ _ _ (by omega) (by omega) rfl (by simp)]
theorem runL_len : ∀ (l : List impl_Decision) (m : impl_Master), m.Routes.length ≤ 6 → (runL l m).1.Routes.length ≤ 6
  | [], m, h => h
  | d :: ds, m, h => by
    unfold runL
    split
    · rename_i hk; exact runL_len ds _ (masterOk_len (applyR_ok hk)).1
    · simp
theorem runR_len (l : List impl_Decision) : (runR l).1.Routes.length ≤ 6 := by
  unfold runR
  split
  · simp
  · exact runL_len l _ (by simp)

/-! ### Lists of decisions in the laws -/
theorem eqDecision_refl (a : impl_Decision) : laws_eqDecision a a = some (true, ()) := by rw [laws_eqDecision_eq, eqPlan_refl]; simp
theorem eqDecisionS_refl (xs : List impl_Decision) (hx : xs.length ≤ 1000000000000) : laws_eqDecisionS xs xs = some (true, ()) := by
  rw [laws_eqDecisionS_eq, decide_eq_true rfl]
  refine refl_loop0 (true, ()) xs.length (fun i => laws_eqDecisionS_4 xs xs i) (fun i h0 h1 => ?_)
  rw [laws_eqDecisionS_4_eq]
  simp only [cond_dec, eqDecision_refl, Option.bind_some, Bool.not_true, cond_false, if_pos h0]
  by_cases h : i < (xs.length : Int)
  · simp only [if_pos h, w64 (n := i + 1) (by omega) (by omega)]
  · simp only [if_neg h]
theorem toDecisionS_f (xs : List laws_Decision) (hx : xs.length ≤ 1048576) : laws_toDecisionS xs = some (xs.map cvDecision, ()) := by
  rw [laws_toDecisionS_eq]
  simp only [cond_dec, if_pos (show (0 : Int) ≤ (xs.length : Int) by omega), if_pos (show (xs.length : Int) ≤ (xs.length : Int) by omega), if_pos (show (72 : Int) * (xs.length : Int) ≤ 281474976710656 by omega), Int.toNat_natCast]
  refine copy_loop0 (xs.map cvDecision) _ z_impl_Decision xs.length (by simp) (by simp) (fun l => (l, ())) (fun zs i => laws_toDecisionS_3 xs i zs) (fun zs i h0 h1 hl => ?_)
  rw [laws_toDecisionS_3_eq]
  by_cases h : i < (xs.length : Int)
  · simp only [cond_dec, if_pos h, if_pos h0, toDecision_f, Option.bind_some, if_pos (show i < (zs.length : Int) by omega), w64 (n := i + 1) (by omega) (by omega), rd_map cvDecision xs i.toNat z_laws_Decision _ (by omega)]
  · simp only [cond_dec, if_neg h]
theorem szDecisionS_l (xs : List laws_Decision) (hx : xs.length ≤ 1048576) (hB : ∀ x ∈ xs, small x.Begun.Key) : ∀ (n : Nat) (i k : Int), i + n = xs.length → 0 ≤ i → 0 ≤ k → k ≤ 1048576 → ∃ r, laws_szDecisionS_5 xs k i = some (r, ()) ∧ -1 ≤ r ∧ r ≤ k
  | 0, i, k, hi, h0, h1, h2 => by rw [laws_szDecisionS_5_eq, cond_dec, if_neg (by omega)]; exact ⟨_, rfl, by omega, by omega⟩
  | n + 1, i, k, hi, h0, h1, h2 => by
    have hm : rdAt xs i.toNat z_laws_Decision ∈ xs := rd_mem h0 (by omega)
    obtain ⟨r, hr, r0, r1⟩ := szDecision_f (rdAt xs i.toNat z_laws_Decision) k h1 h2 (hB _ hm)
    rw [laws_szDecisionS_5_eq]
    simp only [cond_dec, if_pos (show i < (xs.length : Int) by omega), if_pos h0, hr, Option.bind_some, w64 (n := i + 1) (by omega) (by omega)]
    by_cases h : r < 0
    · rw [if_pos h]; exact ⟨_, rfl, by omega, by omega⟩
    · rw [if_neg h]
      obtain ⟨q, hq, hq1, hq2⟩ := szDecisionS_l xs hx hB n (i + 1) r (by omega) (by omega) (by omega) (by omega)
      exact ⟨q, hq, by omega, by omega⟩
theorem szDecisionS_f (xs : List laws_Decision) (k : Int) (h0 : 0 ≤ k) (h1 : k ≤ 1048576) (hl : xs.length ≤ 9223372036854775807) (hB : ∀ x ∈ xs, small x.Begun.Key) : ∃ r, laws_szDecisionS xs k = some (r, ()) ∧ -1 ≤ r ∧ r ≤ k ∧ (r < 0 ∨ xs.length ≤ 1048576) := by
  rw [laws_szDecisionS_eq]
  simp only [cond_dec, w64 (n := k - (xs.length : Int)) (by omega) (by omega)]
  by_cases h : k - (xs.length : Int) < 0
  · rw [if_pos h]; exact ⟨_, rfl, by omega, by omega, .inl (by omega)⟩
  · rw [if_neg h]
    obtain ⟨r, hr, r0, r1⟩ := szDecisionS_l xs (by omega) hB xs.length 0 (k - xs.length) (by omega) (by omega) (by omega) (by omega)
    exact ⟨r, hr, by omega, by omega, .inr (by omega)⟩
/-- Marking decisions ends with some number that is not negative. -/
theorem markD17 (k i : Int) (zs : List impl_Decision) (h0 : 0 ≤ i) (hl : i < (zs.length : Int)) (hk : 0 ≤ k) (hk2 : k ≤ 1000000000000) (hi : i ≤ 1000000000) : ∃ l, l.length = zs.length ∧ laws_markDecisionS_17 k i zs = laws_markDecisionS_2 (k + 2) (i + 1) l := by
  rw [laws_markDecisionS_17_eq]
  simp only [cond_dec, if_pos hl, if_pos h0, List.length_set, w64 (n := k + 1) (by omega) (by omega), w64 (n := k + 1 + 1) (by omega) (by omega), w64 (n := i + 1) (by omega) (by omega)]
  refine ⟨_, ?_, by rw [show k + 1 + 1 = k + 2 by omega]⟩
  simp only [List.length_set]
theorem markD13 (k i : Int) (zs : List impl_Decision) (h0 : 0 ≤ i) (hl : i < (zs.length : Int)) (hk : 0 ≤ k) (hk2 : k ≤ 1000000000000) : ∃ l, l.length = zs.length ∧ laws_markDecisionS_13 k i zs = laws_markDecisionS_17 (k + 2) i l := by
  rw [laws_markDecisionS_13_eq]
  simp only [cond_dec, if_pos hl, if_pos h0, List.length_set, w64 (n := k + 1) (by omega) (by omega), w64 (n := k + 1 + 1) (by omega) (by omega), mt_eq k (by omega) (by omega), mt_eq (k + 1) (by omega) (by omega), mt_eq (k + 1 + 1) (by omega) (by omega), Option.bind_some]
  refine ⟨_, ?_, by rw [show k + 1 + 1 = k + 2 by omega]⟩
  simp only [List.length_set]
theorem markD9 (k i : Int) (zs : List impl_Decision) (h0 : 0 ≤ i) (hl : i < (zs.length : Int)) (hk : 0 ≤ k) (hk2 : k ≤ 1000000000000) : ∃ l, l.length = zs.length ∧ laws_markDecisionS_9 k i zs = laws_markDecisionS_13 (k + 2) i l := by
  rw [laws_markDecisionS_9_eq]
  simp only [cond_dec, if_pos hl, if_pos h0, List.length_set, w64 (n := k + 1) (by omega) (by omega), w64 (n := k + 1 + 1) (by omega) (by omega), mt_eq k (by omega) (by omega), mt_eq (k + 1) (by omega) (by omega), mt_eq (k + 1 + 1) (by omega) (by omega), Option.bind_some]
  refine ⟨_, ?_, by rw [show k + 1 + 1 = k + 2 by omega]⟩
  simp only [List.length_set]
theorem markD2 (k i : Int) (zs : List impl_Decision) (h0 : 0 ≤ i) (hl : i < (zs.length : Int)) (hk : 0 ≤ k) (hk2 : k ≤ 1000000000000) : ∃ l, l.length = zs.length ∧ laws_markDecisionS_2 k i zs = laws_markDecisionS_9 (k + 2) i l := by
  rw [laws_markDecisionS_2_eq]
  simp only [cond_dec, if_pos hl, if_pos h0, List.length_set, w64 (n := k + 1) (by omega) (by omega), w64 (n := k + 1 + 1) (by omega) (by omega), mt_eq k (by omega) (by omega), mt_eq (k + 1) (by omega) (by omega), mt_eq (k + 1 + 1) (by omega) (by omega), Option.bind_some]
  refine ⟨_, ?_, by rw [show k + 1 + 1 = k + 2 by omega]⟩
  simp only [List.length_set]
theorem markDecisionS_l (n : Nat) (hn : n ≤ 1000000000) : ∀ (j : Nat) (k i : Int) (zs : List impl_Decision), zs.length = n → 0 ≤ i → i + j = n → 0 ≤ k → k + 8 * j ≤ 100000000000 → ∃ r l, laws_markDecisionS_2 k i zs = some (r, (l, ())) ∧ 0 ≤ r
  | 0, k, i, zs, hz, h0, hi, hk, hk2 => by rw [laws_markDecisionS_2_eq, cond_dec, if_neg (by omega)]; exact ⟨_, _, rfl, hk⟩
  | j + 1, k, i, zs, hz, h0, hi, hk, hk2 => by
    obtain ⟨l1, e1, h1⟩ := markD2 k i zs h0 (by omega) hk (by omega)
    obtain ⟨l2, e2, h2⟩ := markD9 (k + 2) i l1 h0 (by omega) (by omega) (by omega)
    obtain ⟨l3, e3, h3⟩ := markD13 (k + 2 + 2) i l2 h0 (by omega) (by omega) (by omega)
    obtain ⟨l4, e4, h4⟩ := markD17 (k + 2 + 2 + 2) i l3 h0 (by omega) (by omega) (by omega) (by omega)
    rw [h1, h2, h3, h4]
    exact markDecisionS_l n hn j _ _ l4 (by omega) (by omega) (by omega) (by omega) (by omega)
theorem markDecisionS_f (zs : List impl_Decision) (h : zs.length ≤ 1000000000) : ∃ r l, laws_markDecisionS zs 1 = some (r, (l, ())) ∧ 0 ≤ r := by
  rw [laws_markDecisionS_eq]
  exact markDecisionS_l zs.length h zs.length 1 0 zs rfl (by omega) (by omega) (by omega) (by omega)
end Go.Proofs.Ytkelnaphjekenaa.Ev
