/- RunDecisions, of the program and of the reference, and the laws' functions on lists of decisions. No condition. -/
import Derived.Test.YtlffjoabajdfnaaGreatPuG
set_option linter.unusedVariables false
set_option linter.unusedSimpArgs false
namespace Go.Proofs.YtlffjoabajdfnaaGreat.Ev
open Go.Proofs.YtlffjoabajdfnaaGreat.Eng
open Go.RowKit (wrap64)
theorem fin_ok {x : Bool} {a b : impl_Master} (h : (fin x a b).2.1 = true) : masterOk (fin x a b).1 = true := by
  unfold fin at h ⊢
  by_cases c : x = true ∧ masterOk b = true
  · rw [if_pos c]; exact c.2
  · rw [if_neg c] at h; exact absurd h (by simp)
theorem applyR_ok {m : impl_Master} {d : impl_Decision} (h : (applyR m d).2.1 = true) : masterOk (applyR m d).1 = true := by
  unfold applyR at h ⊢
  split at h
  · exact absurd h (by simp)
  · rename_i h1
    rw [if_neg h1]
    split at h
    · rename_i h2; rw [if_pos h2]; exact fin_ok h
    · rename_i h2
      rw [if_neg h2]
      split at h
      · rename_i h3; rw [if_pos h3]; exact fin_ok h
      · rename_i h3
        rw [if_neg h3]
        split at h
        · rename_i h4; rw [if_pos h4]; exact fin_ok h
        · rename_i h4
          rw [if_neg h4]
          split at h
          · rename_i h5; rw [if_pos h5]; exact fin_ok h
          · rename_i h5
            rw [if_neg h5]
            split at h
            · rename_i h6; rw [if_pos h6]; exact fin_ok h
            · exact absurd h (by simp)
def runL : List impl_Decision → impl_Master → impl_Master × Bool × Unit
  | [], m => (m, true, ())
  | d :: ds, m => if (applyR m d).2.1 = true then runL ds (applyR m d).1 else (zMaster, false, ())
abbrev newM : impl_Master := impl_Master.mk [z_impl_Route] 1 zPlan 0
def runR (l : List impl_Decision) : impl_Master × Bool × Unit := if 60 < l.length then (zMaster, false, ()) else runL l newM
theorem spec_run_l (xs : List impl_Decision) (hx : xs.length ≤ 60) : ∀ (ys : List impl_Decision) (i : Int) (s0 s1 : impl_Master) (s2 s3 : List impl_Route), 0 ≤ i → i ≤ xs.length → xs.drop i.toNat = ys → s3.length ≤ 1000000000 →
    spec_RunDecisions_5 xs i s0 s1 s2 s3 = some (runL ys (impl_Master.mk s3 s1.Shards s1.Work s1.Turn), ())
  | [], i, s0, s1, s2, s3, h0, h1, h, hl => by
    have := drop_nil h0 h1 h
    rw [spec_RunDecisions_5_eq, cond_dec, if_neg (by omega)]; rfl
  | y :: ys, i, s0, s1, s2, s3, h0, h1, h, hl => by
    obtain ⟨hr, hi, ht⟩ := rd_drop (d := z_impl_Decision) h0 h
    rw [spec_RunDecisions_5_eq]
    simp only [cond_dec, if_pos hi, if_pos h0, hr, w64 (n := i + 1) (by omega) (by omega)]
    rw [spec_ApplyDecision_f _ _ hl, Option.bind_some]
    unfold runL
    cases hk : (applyR (impl_Master.mk s3 s1.Shards s1.Work s1.Turn) y).2.1 with
    | false => simp
    | true =>
      have hm := masterOk_len (applyR_ok hk)
      simp only [Bool.not_true, cond_false, if_true]
      exact spec_run_l xs hx ys (i + 1) _ _ _ _ (by omega) (by omega) ht (by omega)
theorem spec_NewMaster_f : spec_NewMaster = some (newM, ()) := spec_NewMaster_eq
theorem spec_RunDecisions_f (l : List impl_Decision) : spec_RunDecisions l = some (runR l, ()) := by
  rw [spec_RunDecisions_eq, spec_NewMaster_f, Option.bind_some, cond_dec]
  unfold runR
  by_cases h : 60 < l.length
  · rw [if_pos (by omega), if_pos h]
  · rw [if_neg (by omega), if_neg h, spec_run_l l (by omega) l 0 _ _ _ _ (by omega) (by omega) rfl (by simp)]
theorem runL_len : ∀ (l : List impl_Decision) (m : impl_Master), m.Routes.length ≤ 6 → (runL l m).1.Routes.length ≤ 6
  | [], m, h => h
  | d :: ds, m, h => by
    unfold runL
    split
    · rename_i hk; exact runL_len ds _ (masterOk_len (applyR_ok hk)).1
    · simp
theorem runR_len (l : List impl_Decision) : (runR l).1.Routes.length ≤ 6 := by
  unfold runR
  split
  · simp
  · exact runL_len l _ (by simp)
/-! ### Lists of decisions in the laws -/
end Go.Proofs.YtlffjoabajdfnaaGreat.Ev
