/- Entries applied, logs replayed: the program's functions and the reference's say the same. No condition. -/
import Derived.Test.YtlffjoabajdfnaaGreatPuAp
set_option linter.unusedVariables false
set_option linter.unusedSimpArgs false
namespace Go.Proofs.YtlffjoabajdfnaaGreat.Ev
open Go.Proofs.YtlffjoabajdfnaaGreat.Eng
open Go.RowKit (wrap64)
abbrev zState : impl_State := impl_State.mk (impl_Interval.mk es es) ([] : List impl_Pair) ([] : List impl_Session) false es
def takes (s : impl_State) (c : impl_Command) : Bool := if c.Kind = 5 then decide (c.Key = es) || cutOk s.Span c.Key else inIv s.Span c.Key
def applyE1 (s : impl_State) (e : impl_Entry) : impl_State × Int :=
  if e.Cmd.Kind = 5 then (impl_State.mk s.Span s.Pairs (sessPut s.Known ⟨e.Client, e.Seq, 0⟩).1 true e.Cmd.Key, 0)
  else (impl_State.mk s.Span (applyC s.Pairs e.Cmd).1 (sessPut s.Known ⟨e.Client, e.Seq, (applyC s.Pairs e.Cmd).2⟩).1 s.Sealed s.Cut, (applyC s.Pairs e.Cmd).2)
def applyE (s : impl_State) (e : impl_Entry) : impl_State × Int :=
  if stateOk s = true ∧ entryOk e = true then
    (if (sessOf s.Known e.Client).Seq = e.Seq then (s, (sessOf s.Known e.Client).Reply) else
     if e.Seq < (sessOf s.Known e.Client).Seq then (s, -4) else
     if s.Sealed = true ∨ takes s e.Cmd = false then (s, -3) else applyE1 s e)
  else (zState, -3)
theorem entryOk_says {e : impl_Entry} (h : entryOk e = true) : (0 ≤ e.Client ∧ e.Client ≤ 3) ∧ (1 ≤ e.Seq ∧ e.Seq ≤ 999) ∧ cmdOk e.Cmd = true := by
  simp only [entryOk, Bool.and_eq_true, decide_eq_true_eq] at h
  exact ⟨h.1.1, h.1.2, h.2⟩
theorem cmdOk_key {c : impl_Command} (h : cmdOk c = true) (h5 : c.Kind ≠ 5) : keyOk c.Key = true := by
  simp only [cmdOk, Bool.and_eq_true, Bool.or_eq_true, decide_eq_true_eq] at h
  exact h.1.2.resolve_right fun k => h5 k.1
theorem spec_15_f (x : Bool) (s : impl_State) (e : impl_Entry) (z : impl_State) (s3 : impl_State) (s4 : List impl_Pair) (s5 : List impl_Session) (hk : s.Known.length ≤ 4) (hx : x = decide (e.Cmd.Kind = 5)) (h3 : s3.Span = s.Span ∧ s3.Sealed = s.Sealed ∧ s3.Cut = s.Cut) :
    spec_ApplyEntry_15 x s e z s3 s4 s5 s.Pairs s.Known = some (((applyE1 s e).1, ((applyE1 s e).2, ())), ()) := by
  obtain ⟨a1, a2, a3⟩ := h3
  rw [spec_ApplyEntry_15_eq, spec_ApplyEntry_16_eq]
  simp only [spec_SessionPut_f s.Known _ (show s.Known.length ≤ 1000000000000 by omega), Option.bind_some, spec_ApplyCommand_f, a1, a2, a3]
  unfold applyE1
  subst hx
  by_cases h5 : e.Cmd.Kind = 5
  · simp [h5]
  · simp [h5]
theorem spec_ApplyEntry_f (s : impl_State) (e : impl_Entry) (hk : s.Known.length ≤ 1000000000000) : spec_ApplyEntry s e = some (((applyE s e).1, ((applyE s e).2, ())), ()) := by
  rw [spec_ApplyEntry_eq, spec_StateValid_f s hk, Option.bind_some, spec_EntryValid_f, Option.bind_some]
  unfold applyE
  cases h1 : stateOk s with
  | false => simp
  | true =>
    have hl := stateOk_len h1
    cases h2 : entryOk e with
    | false => simp
    | true =>
      have he := entryOk_says h2
      have hso : sessOk s.Known = true := by simp only [stateOk, Bool.and_eq_true] at h1; exact h1.1.1.2
      have hiv : ivOk s.Span = true := by simp only [stateOk, Bool.and_eq_true] at h1; exact h1.1.1.1.1
      simp only [Bool.not_true, cond_false, spec_l10Copy_f s (by omega) (by omega), Option.bind_some, spec_l9Find_f s.Known e.Client hso, and_self, if_true, cond_dec, spec_IntervalCut_f, spec_IntervalHas_f, cutR_ok]
      by_cases q : (sessOf s.Known e.Client).Seq = e.Seq
      · rw [if_pos q, if_pos q]
      · rw [if_neg q, if_neg q]
        by_cases q2 : e.Seq < (sessOf s.Known e.Client).Seq
        · rw [if_pos q2, if_pos q2]
        · rw [if_neg q2, if_neg q2]
          cases h4 : s.Sealed with
          | true => simp
          | false =>
            simp only [cond_false, Bool.false_eq_true, false_or]
            have j := spec_15_f (decide (e.Cmd.Kind = 5)) s e zState (impl_State.mk s.Span ([] : List impl_Pair) ([] : List impl_Session) false s.Cut) ([] : List impl_Pair) ([] : List impl_Session) hl.2 rfl ⟨rfl, h4.symm, rfl⟩
            rw [j]
            unfold takes
            by_cases h5 : e.Cmd.Kind = 5
            · rw [if_pos h5, if_pos h5, decide_eq_true h5, sEq_dec]
              by_cases hz : e.Cmd.Key = es
              · simp [hz]
              · cases hc : cutOk s.Span e.Cmd.Key <;> simp [hz]
            · rw [if_neg h5, if_neg h5, decide_eq_false h5, hiv, cmdOk_key he.2.2 h5]
              cases hc : inIv s.Span e.Cmd.Key <;> simp
theorem applyE_len (s : impl_State) (e : impl_Entry) : (applyE s e).1.Pairs.length ≤ 48 ∧ (applyE s e).1.Known.length ≤ 5 := by
  unfold applyE
  split
  · rename_i h
    have hl := stateOk_len h.1
    have hs : s.Pairs.length ≤ 48 ∧ s.Known.length ≤ 5 := by omega
    split
    · exact hs
    · split
      · exact hs
      · split
        · exact hs
        · unfold applyE1
          split
          · exact ⟨hs.1, sessPut_length _ _⟩
          · exact ⟨applyC_len _ _, sessPut_length _ _⟩
  · exact ⟨by simp, by simp⟩
/-! ### Replay -/
def runE : List impl_Entry → impl_State → List Int → impl_State × List Int
  | [], s, out => (s, out)
  | e :: es, s, out => runE es (applyE s e).1 (out ++ [(applyE s e).2])
def replayR (s : impl_State) (l : List impl_Entry) : impl_State × List Int := if stateOk s = true ∧ entriesOk l = true then runE l s [] else (zState, [])
theorem spec_Replay_l (xs : List impl_Entry) (hx : xs.length ≤ 24) : ∀ (ys : List impl_Entry) (i : Int) (s0 : impl_State) (out : List Int) (s1 : impl_State) (s3 : List impl_Pair) (s4 : List impl_Session) (p : List impl_Pair) (k : List impl_Session), 0 ≤ i → i ≤ xs.length → xs.drop i.toNat = ys → out.length = i.toNat → k.length ≤ 1000 →
    spec_Replay_6 xs i s0 out s1 s3 s4 p k = some (((runE ys (impl_State.mk s1.Span p k s1.Sealed s1.Cut) out).1, ((runE ys (impl_State.mk s1.Span p k s1.Sealed s1.Cut) out).2, ())), ())
  | [], i, s0, out, s1, s3, s4, p, k, h0, h1, h, ho, hk => by
    have := drop_nil h0 h1 h
    rw [spec_Replay_6_eq, cond_dec, if_neg (by omega)]; rfl
  | y :: ys, i, s0, out, s1, s3, s4, p, k, h0, h1, h, ho, hk => by
    obtain ⟨hr, hi, ht⟩ := rd_drop (d := z_impl_Entry) h0 h
    have hl := applyE_len (impl_State.mk s1.Span p k s1.Sealed s1.Cut) y
    rw [spec_Replay_6_eq]
    simp only [cond_dec, if_pos hi, if_pos h0, hr, w64 (n := i + 1) (by omega) (by omega)]
    rw [spec_ApplyEntry_f _ _ (show k.length ≤ 1000000000000 by omega), Option.bind_some, ble_row (by simp; omega) (by omega), cond_true]
    unfold runE
    exact spec_Replay_l xs hx ys (i + 1) _ _ _ _ _ _ _ (by omega) (by omega) ht (by simp; omega) (Nat.le_trans hl.2 (by omega))
theorem entriesOk_len {l : List impl_Entry} (h : entriesOk l = true) : l.length ≤ 24 := by
  simp only [entriesOk, Bool.and_eq_true, decide_eq_true_eq] at h; exact h.1
theorem spec_Replay_f (s : impl_State) (l : List impl_Entry) (hk : s.Known.length ≤ 1000000000000) (hl' : l.length ≤ 1000000000000) : spec_Replay s l = some (((replayR s l).1, ((replayR s l).2, ())), ()) := by
  rw [spec_Replay_eq, spec_StateValid_f s hk, Option.bind_some, spec_l10Log_f l hl', Option.bind_some]
  unfold replayR
  cases h1 : stateOk s with
  | false => simp
  | true =>
    have hl := stateOk_len h1
    cases h2 : entriesOk l with
    | false => simp
    | true =>
      have := entriesOk_len h2
      simp only [Bool.not_true, cond_false, spec_l10Copy_f s (by omega) (by omega), Option.bind_some, and_self, if_true]
      rw [spec_Replay_l l this l 0 _ _ _ _ _ _ _ (by omega) (by omega) rfl rfl (by omega)]
theorem runE_len : ∀ (l : List impl_Entry) (s : impl_State) (out : List Int), s.Pairs.length ≤ 48 → s.Known.length ≤ 5 → (runE l s out).1.Pairs.length ≤ 48 ∧ (runE l s out).1.Known.length ≤ 5 ∧ (runE l s out).2.length = out.length + l.length
  | [], s, out, h1, h2 => ⟨h1, h2, by simp [runE]⟩
  | e :: l, s, out, h1, h2 => by
    have hl := applyE_len s e
    obtain ⟨a, b, c⟩ := runE_len l (applyE s e).1 (out ++ [(applyE s e).2]) hl.1 hl.2
    exact ⟨a, b, by unfold runE; rw [c]; simp; omega⟩
theorem replayR_len (s : impl_State) (l : List impl_Entry) : (replayR s l).1.Pairs.length ≤ 48 ∧ (replayR s l).1.Known.length ≤ 5 := by
  unfold replayR
  split
  · rename_i h
    have hl := stateOk_len h.1
    obtain ⟨a, b, _⟩ := runE_len l s [] hl.1 (by omega)
    exact ⟨a, b⟩
  · exact ⟨by simp, by simp⟩
end Go.Proofs.YtlffjoabajdfnaaGreat.Ev
