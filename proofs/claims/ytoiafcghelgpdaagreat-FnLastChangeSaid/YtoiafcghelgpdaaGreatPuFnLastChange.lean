/- The last change of a value: from there on it stays, before there it is another. No condition. -/
import Derived.Test.YtoiafcghelgpdaaGreatPuDy
import Derived.Test.YtoiafcghelgpdaaGreatPuAl
set_option linter.unusedVariables false
set_option linter.unusedSimpArgs false
namespace Go.Proofs.YtoiafcghelgpdaaGreat.Ev
open Go.Proofs.YtoiafcghelgpdaaGreat.Eng
open Go.RowKit (wrap64)
theorem lastFrom_spec (c : impl_Chain) (k : ByteArray) : ∀ n : Nat, 0 ≤ lastFrom c k n ∧ lastFrom c k n ≤ n ∧ (∀ j : Nat, lastFrom c k n ≤ j → j ≤ n → valueAtR c j k = valueAtR c n k) ∧ (lastFrom c k n ≠ 0 → valueAtR c (lastFrom c k n - 1) k ≠ valueAtR c n k) ∧ lastFrom c k (lastFrom c k n).toNat = lastFrom c k n
  | 0 => ⟨by simp [lastFrom], by simp [lastFrom], fun j h1 h2 => by rw [show j = 0 by omega], fun h => absurd rfl h, rfl⟩
  | n + 1 => by
    obtain ⟨h0, h1, h2, h3, h4⟩ := lastFrom_spec c k n
    by_cases e : valueAtR c ((n + 1 : Nat) : Int) k = valueAtR c (n : Int) k
    · have el : lastFrom c k (n + 1) = lastFrom c k n := by rw [lastFrom, if_pos e]
      rw [el]
      refine ⟨h0, by omega, fun j hj hn => ?_, fun h => by rw [e]; exact h3 h, h4⟩
      by_cases hj2 : j = n + 1
      · rw [hj2]
      · rw [e]; exact h2 j hj (by omega)
    · have el : lastFrom c k (n + 1) = ((n + 1 : Nat) : Int) := by rw [lastFrom, if_neg e]
      rw [el]
      refine ⟨by omega, by omega, fun j hj hn => by rw [show j = n + 1 by omega], fun _ => ?_, ?_⟩
      · rw [show ((n + 1 : Nat) : Int) - 1 = (n : Int) by omega]; exact fun h => e h.symm
      · rw [show (((n + 1 : Nat) : Int)).toNat = n + 1 by omega, el]
theorem lastFrom_cut (c : impl_Chain) (k : ByteArray) (d : impl_Chain) (m : Nat) (h : ∀ j : Nat, j ≤ m → valueAtR d j k = valueAtR c j k) : ∀ n : Nat, n ≤ m → lastFrom d k n = lastFrom c k n
  | 0, _ => rfl
  | n + 1, hn => by rw [lastFrom, lastFrom, h (n + 1) hn, h n (by omega), lastFrom_cut c k d m h n (by omega)]
abbrev cutA (c : impl_Chain) (n : Nat) : impl_Chain := ⟨c.Base, c.Conf, c.Nodes, c.Up, c.Bag, c.Answers.take n⟩
theorem cutA_in {c : impl_Chain} (h : ChainIn c) (n : Nat) : ChainIn (cutA c n) := ⟨h.known, h.logs, h.bags⟩
theorem cutA_ok {c : impl_Chain} (h : chainOk c = true) (n : Nat) : chainOk (cutA c n) = true := by
  have k := (chainOk_iff c).1 h
  exact (chainOk_iff _).2 ⟨k.base, k.conf, k.n5, k.u5, k.nodes, k.bag, ⟨by have := k.ans.1; simp; omega, fun a ha => k.ans.2 a (List.mem_of_mem_take ha)⟩⟩
theorem cutA_value {c : impl_Chain} (h : chainOk c = true) (n : Nat) (hn : n ≤ c.Answers.length) (k : ByteArray) (j : Nat) (hj : j ≤ n) : valueAtR (cutA c n) j k = valueAtR c j k := by
  have e : stateAtR (cutA c n) j = stateAtR c j := by
    unfold stateAtR
    rw [if_pos ⟨cutA_ok h n, by omega, by simp; omega⟩, if_pos ⟨h, by omega, by omega⟩]
    show ((replayR c.Base (asked ((c.Answers.take n).take (j : Int).toNat))).1, true) = _
    rw [List.take_take, show min (j : Int).toNat n = (j : Int).toNat by omega]
  unfold valueAtR
  rw [e]
section
variable (c : impl_Chain) (k : ByteArray) (h : chainOk c = true) (hc : ChainIn c)
include h hc
theorem law11 (n v : Int) (hn : n = lastFrom c k c.Answers.length) (hv : v = valueAtR c c.Answers.length k) (s0 : impl_Chain) (hs : impl_Chain.mk (impl_State.mk s0.Base.Span c.Base.Pairs c.Base.Known s0.Base.Sealed s0.Base.Cut) (impl_Config.mk s0.Conf.Epoch c.Conf.Members s0.Conf.Fresh) c.Nodes c.Up c.Bag c.Answers = c) :
    ∀ (j : Nat) (i : Int), i + j = c.Answers.length + 1 → n ≤ i → laws_FnLastChange_11 k n v i s0 c.Base.Pairs c.Base.Known c.Conf.Members c.Nodes c.Up c.Bag c.Answers = some (true, ())
  | 0, i, hj, hi => by
    have ha := chainOk_answers h
    obtain ⟨l0, l1, l2, l3, l4⟩ := lastFrom_spec c k c.Answers.length
    rw [laws_FnLastChange_11_eq, hs]
    simp only [cond_dec]
    rw [if_neg (by omega), if_pos (by omega), if_pos (by omega)]
    have hcut : impl_Chain.mk (impl_State.mk s0.Base.Span c.Base.Pairs c.Base.Known s0.Base.Sealed s0.Base.Cut) (impl_Config.mk s0.Conf.Epoch c.Conf.Members s0.Conf.Fresh) c.Nodes c.Up c.Bag (cutList c.Answers 0 n) = cutA c n.toNat := by
      have e1 := congrArg impl_Chain.Base hs
      have e2 := congrArg impl_Chain.Conf hs
      dsimp only at e1 e2
      rw [e1, e2, cut_pre _ n (by omega)]
    rw [hcut, impl_LastChange_f _ k (cutA_in hc _), Option.bind_some]
    have hl : lastR (cutA c n.toNat) k = n := by
      unfold lastR
      rw [if_pos (cutA_ok h _), show (cutA c n.toNat).Answers.length = n.toNat by simp; omega, lastFrom_cut c k _ n.toNat (fun j hj => cutA_value h _ (by omega) k j hj) n.toNat (Nat.le_refl _)]
      rw [hn]; exact l4
    rw [hl, if_pos rfl, alive_f]
    by_cases h0 : n = 0
    · rw [if_pos h0]; rfl
    · rw [if_neg h0, w64 (n := n - 1) (by omega) (by omega), impl_ValueAt_f c _ k hc, Option.bind_some, decide_eq_false (by rw [hv, hn]; exact l3 (by omega))]; rfl
  | j + 1, i, hj, hi => by
    have ha := chainOk_answers h
    obtain ⟨l0, l1, l2, l3, l4⟩ := lastFrom_spec c k c.Answers.length
    rw [laws_FnLastChange_11_eq, hs, cond_dec, if_pos (by omega), impl_ValueAt_f c i k hc, Option.bind_some, w64 (n := i + 1) (by omega) (by omega)]
    have := l2 i.toNat (by omega) (by omega)
    rw [show ((i.toNat : Nat) : Int) = i by omega] at this
    rw [hv, this, decide_eq_true rfl, Bool.not_true, cond_false, ← hv]
    exact law11 n v hn hv s0 hs j (i + 1) (by omega) (by omega)
end
theorem law (a0 : List Int) (h0 : Bnd (.sl (.int .u8)) a0) : laws_FnLastChange a0 = some (true, ()) := by
  have hb : ∀ x ∈ a0, 0 ≤ x ∧ x ≤ 255 := fun x hx => wf8 (h0.2 x hx)
  rw [laws_FnLastChange_eq, cond_dec]
  by_cases hk : 1048576 < (a0.length : Int)
  · rw [if_pos hk]
  rw [if_neg hk]
  obtain ⟨x, e, hx⟩ := DrawLastChange_t hb
  rw [e, Option.bind_some]
  generalize x.1.1 = c at *
  generalize x.1.2.1 = k at *
  have hc := hx.inn
  rw [eta_Chain, impl_LastChange_f c k hc, Option.bind_some, spec_LastChange_f c k hc, Option.bind_some, decide_eq_true rfl, Bool.not_true, cond_false, impl_ChainValid_f c hc, Option.bind_some, alive_f]
  unfold lastR
  by_cases h : chainOk c = true
  · have ha := chainOk_answers h
    obtain ⟨l0, l1, _⟩ := lastFrom_spec c k c.Answers.length
    rw [if_pos h]
    simp only [cond_dec]
    rw [if_neg (by omega), if_neg (by omega), impl_ValueAt_f c _ k hc, Option.bind_some]
    exact law11 c k h hc _ _ rfl rfl (sk c) rfl (c.Answers.length + 1 - (lastFrom c k c.Answers.length).toNat) (lastFrom c k c.Answers.length) (by omega) (Int.le_refl _)
  · rw [if_neg h, Bool.eq_false_iff.2 h]; rfl
end Go.Proofs.YtoiafcghelgpdaaGreat.Ev
