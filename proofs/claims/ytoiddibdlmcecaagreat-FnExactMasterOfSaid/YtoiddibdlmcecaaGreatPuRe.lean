/- Entries applied, logs replayed: the program's functions and the reference's say the same. No condition. -/
import Derived.Test.YtoiddibdlmcecaaGreatPuAp
set_option linter.unusedVariables false
set_option linter.unusedSimpArgs false
namespace Go.Proofs.YtoiddibdlmcecaaGreat.Ev
open Go.Proofs.YtoiddibdlmcecaaGreat.Eng
open Go.RowKit (wrap64)

abbrev zState : impl_State := impl_State.mk (impl_Interval.mk es es) ([] : List impl_Pair) ([] : List impl_Session) false es
/-- What an entry's command concerns. -/
def takes (s : impl_State) (c : impl_Command) : Bool := if c.Kind = 5 then decide (c.Key = es) || cutOk s.Span c.Key else inIv s.Span c.Key
def applyE1 (s : impl_State) (e : impl_Entry) : impl_State × Int :=
  if e.Cmd.Kind = 5 then (impl_State.mk s.Span s.Pairs (sessPut s.Known ⟨e.Client, e.Seq, 0⟩).1 true e.Cmd.Key, 0)
  else (impl_State.mk s.Span (applyC s.Pairs e.Cmd).1 (sessPut s.Known ⟨e.Client, e.Seq, (applyC s.Pairs e.Cmd).2⟩).1 s.Sealed s.Cut, (applyC s.Pairs e.Cmd).2)
def applyE (s : impl_State) (e : impl_Entry) : impl_State × Int :=
  if stateOk s = true ∧ entryOk e = true then
    (if (sessOf s.Known e.Client).Seq = e.Seq then (s, (sessOf s.Known e.Client).Reply) else
     if e.Seq < (sessOf s.Known e.Client).Seq then (s, -4) else
     if s.Sealed = true ∨ takes s e.Cmd = false then (s, -3) else applyE1 s e)
  else (zState, -3)
theorem entryOk_says {e : impl_Entry} (h : entryOk e = true) : (0 ≤ e.Client ∧ e.Client ≤ 3) ∧ (1 ≤ e.Seq ∧ e.Seq ≤ 999) ∧ cmdOk e.Cmd = true := by
  simp only [entryOk, Bool.and_eq_true, decide_eq_true_eq] at h
  exact ⟨h.1.1, h.1.2, h.2⟩
theorem cmdOk_key {c : impl_Command} (h : cmdOk c = true) (h5 : c.Kind ≠ 5) : keyOk c.Key = true := by
  simp only [cmdOk, Bool.and_eq_true, Bool.or_eq_true, decide_eq_true_eq] at h
  exact h.1.2.resolve_right fun k => h5 k.1
theorem sessOf_hit {l : List impl_Session} {c : Int} (h : shit c l = true) : sessOf l c = rdAt l (Int.toNat (splace c l : Int)) z_impl_Session := by unfold sessOf; rw [if_pos h]
theorem sessOf_no {l : List impl_Session} {c : Int} (h : shit c l = false) : sessOf l c = ⟨0, 0, 0⟩ := by unfold sessOf; rw [if_neg (by rw [h]; simp)]
theorem applyE_len (s : impl_State) (e : impl_Entry) : (applyE s e).1.Pairs.length ≤ 48 ∧ (applyE s e).1.Known.length ≤ 5 := by
  unfold applyE
  split
  · rename_i h
    have hl := stateOk_len h.1
    have hs : s.Pairs.length ≤ 48 ∧ s.Known.length ≤ 5 := by omega
    split
    · exact hs
    · split
      · exact hs
      · split
        · exact hs
        · unfold applyE1
          split
          · exact ⟨hs.1, sessPut_length _ _⟩
          · exact ⟨applyC_len _ _, sessPut_length _ _⟩
  · exact ⟨by simp, by simp⟩

/-! ### Replay -/
def runE : List impl_Entry → impl_State → List Int → impl_State × List Int
  | [], s, out => (s, out)
  | e :: es, s, out => runE es (applyE s e).1 (out ++ [(applyE s e).2])
def replayR (s : impl_State) (l : List impl_Entry) : impl_State × List Int := if stateOk s = true ∧ entriesOk l = true then runE l s [] else (zState, [])
theorem entriesOk_len {l : List impl_Entry} (h : entriesOk l = true) : l.length ≤ 24 := by
  simp only [entriesOk, Bool.and_eq_true, decide_eq_true_eq] at h; exact h.1
theorem runE_len : ∀ (l : List impl_Entry) (s : impl_State) (out : List Int), s.Pairs.length ≤ 48 → s.Known.length ≤ 5 → (runE l s out).1.Pairs.length ≤ 48 ∧ (runE l s out).1.Known.length ≤ 5 ∧ (runE l s out).2.length = out.length + l.length
  | [], s, out, h1, h2 => ⟨h1, h2, by simp [runE]⟩
  | e :: l, s, out, h1, h2 => by
    have hl := applyE_len s e
    obtain ⟨a, b, c⟩ := runE_len l (applyE s e).1 (out ++ [(applyE s e).2]) hl.1 hl.2
    exact ⟨a, b, by unfold runE; rw [c]; simp; omega⟩
theorem replayR_len (s : impl_State) (l : List impl_Entry) : (replayR s l).1.Pairs.length ≤ 48 ∧ (replayR s l).1.Known.length ≤ 5 := by
  unfold replayR
  split
  · rename_i h
    have hl := stateOk_len h.1
    obtain ⟨a, b, _⟩ := runE_len l s [] hl.1 (by omega)
    exact ⟨a, b⟩
  · exact ⟨by simp, by simp⟩
end Go.Proofs.YtoiddibdlmcecaaGreat.Ev
