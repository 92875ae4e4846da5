/- States after so many answers: both say the same; settling changes none; the last is the state of all answers. No condition. -/
import Derived.Test.YthkdkojfahaeaaaGreatPuIw
import Derived.Test.YthkdkojfahaeaaaGreatPuVa
set_option linter.unusedVariables false
set_option linter.unusedSimpArgs false
namespace Go.Proofs.YthkdkojfahaeaaaGreat.Ev
open Go.Proofs.YthkdkojfahaeaaaGreat.Eng
open Go.RowKit (wrap64)
theorem stateAt_step {a b : impl_Chain} (h : Step a b) (ha : ChOk a) (i : Int) (h0 : 0 ≤ i) (h1 : i ≤ a.Answers.length) : stateAtR b i = stateAtR a i ∧ (stateAtR a i).2 = true := by
  obtain ⟨t, ht⟩ := h.ans
  have hl := congrArg List.length ht
  rw [List.length_append] at hl
  unfold stateAtR
  rw [if_pos ⟨(chainOk_iff b).2 h.ok, h0, by omega⟩, if_pos ⟨(chainOk_iff a).2 ha, h0, h1⟩, h.base, ht, List.take_append_of_le_length (by omega)]
  exact ⟨rfl, rfl⟩
theorem answeredState_f (a : impl_Chain) (h : ChOk a) : impl_AnsweredState a = some ((stateAtR a a.Answers.length).1, ()) := by
  have hx := h.ans.1
  rw [impl_AnsweredState_eq, eta_Chain, impl_ChainValid_f a h.inn, Option.bind_some, (chainOk_iff _).2 h]
  simp only [Bool.not_true, cond_false]
  rw [impl_askedOf_f _ (by omega), Option.bind_some, impl_Replay_f _ _ h.inn.known, Option.bind_some]
  unfold stateAtR
  rw [if_pos ⟨(chainOk_iff _).2 h, by omega, by omega⟩, show a.Answers.take ((a.Answers.length : Int)).toNat = a.Answers from List.take_of_length_le (by omega)]
theorem law16 (a b : impl_Chain) (ha : ChOk a) (hst : Step a b) (s0 s1 : impl_Chain) (e0 : impl_Chain.mk (impl_State.mk s0.Base.Span a.Base.Pairs a.Base.Known s0.Base.Sealed s0.Base.Cut) (impl_Config.mk s0.Conf.Epoch a.Conf.Members s0.Conf.Fresh) a.Nodes a.Up a.Bag a.Answers = a) (e1 : impl_Chain.mk (impl_State.mk s1.Base.Span b.Base.Pairs b.Base.Known s1.Base.Sealed s1.Base.Cut) (impl_Config.mk s1.Conf.Epoch b.Conf.Members s1.Conf.Fresh) b.Nodes b.Up b.Bag b.Answers = b) :
    ∀ (j : Nat) (i : Int), i + j = a.Answers.length + 1 → 0 ≤ i → laws_FnStateAt_16 i s0 s1 a.Base.Pairs a.Base.Known a.Conf.Members a.Nodes a.Up a.Bag a.Answers b.Base.Pairs b.Base.Known b.Conf.Members b.Nodes b.Up b.Bag b.Answers = some (true, ())
  | 0, i, hj, h0 => by rw [laws_FnStateAt_16_eq, cond_dec, if_neg (by omega), alive_f]; rfl
  | j + 1, i, hj, h0 => by
    have h24 := ha.ans.1
    obtain ⟨hs, ht⟩ := stateAt_step hst ha i h0 (by omega)
    have hl := stateAtR_len a i
    obtain ⟨q, eq, kq⟩ := sameState_t (stateAtR a i).1 (stateAtR a i).1 (by omega) (by omega)
    rw [laws_FnStateAt_16_eq, e0, e1, cond_dec, if_pos (by omega), impl_StateAt_f a i ha.inn, Option.bind_some, impl_StateAt_f b i hst.ok.inn, Option.bind_some, hs]
    simp only [ht, Bool.not_true, cond_false]
    rw [eq, Option.bind_some, kq rfl, w64 (n := i + 1) (by omega) (by omega), law16 a b ha hst s0 s1 e0 e1 j (i + 1) (by omega) (by omega), Bool.not_true, cond_false, cond_dec]
    by_cases hi : i = (a.Answers.length : Int)
    · rw [if_pos hi, answeredState_f a ha, Option.bind_some, ← hi, eq, Option.bind_some, kq rfl]; rfl
    · rw [if_neg hi]
theorem law (a0 : List Int) (h0 : Bnd (.sl (.int .u8)) a0) : laws_FnStateAt a0 = some (true, ()) := by
  have hb : ∀ x ∈ a0, 0 ≤ x ∧ x ≤ 255 := fun x hx => wf8 (h0.2 x hx)
  rw [laws_FnStateAt_eq, cond_dec]
  by_cases hk : 1048576 < (a0.length : Int)
  · rw [if_pos hk]
  rw [if_neg hk]
  obtain ⟨x, e, hx⟩ := DrawStateAt_t hb
  have hl := stateAtR_len x.1.1 x.1.2.1
  obtain ⟨q, eq, kq⟩ := sameState_t (stateAtR x.1.1 x.1.2.1).1 (stateAtR x.1.1 x.1.2.1).1 (by omega) (by omega)
  obtain ⟨y, ey, hy⟩ := DrawChainPlay_t hb
  obtain ⟨z, ez, hz⟩ := honest_t y.1.1 hy.1
  rw [e, Option.bind_some, eta_Chain, impl_StateAt_f _ _ hx.inn, Option.bind_some, spec_StateAt_f _ _ hx.inn, Option.bind_some, eq, Option.bind_some, kq rfl, ey, Option.bind_some, eta_Chain, ez, Option.bind_some, alive_f]
  simp only [beqS, Bool.not_true, cond_false]
  cases hzz : z.1 with
  | false => rfl
  | true =>
    have hc := hz hzz
    obtain ⟨w, ew, hw⟩ := chainPlay_i y.1.1 y.1.2.1 hc (by omega)
    rw [ew]
    simp only [Option.bind_some, Bool.not_true, cond_false, eta_Chain]
    rcases hw with hw | hw
    · rw [hw, impl_ChainValid_f zChain ⟨by simp [zChain], fun m h => by simp [zChain] at h, fun m h => by simp [zChain] at h⟩, Option.bind_some, zChain_no, noChain_z]; rfl
    · obtain ⟨v, ev, hv⟩ := chainSettle_i w.1 hw.ok
      rw [impl_ChainValid_f w.1 hw.ok.inn, Option.bind_some, (chainOk_iff _).2 hw.ok, ev]
      simp only [Option.bind_some, Bool.not_true, cond_false]
      exact law16 w.1 v.1 hw.ok hv (shc w.1) (shc v.1) rfl rfl (w.1.Answers.length + 1) 0 (by omega) (by omega)
end Go.Proofs.YthkdkojfahaeaaaGreat.Ev
