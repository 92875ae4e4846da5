/- Feeds tell everything: applied to the first state's pairs a log's feed leads to the replayed state's pairs, and the halves' feeds are the whole's. No condition. -/
import Derived.Test.YtkelnaphjekenaaPuFe
import Derived.Test.YtkelnaphjekenaaPuDr
import Derived.Test.YtkelnaphjekenaaPuAl
set_option linter.unusedVariables false
set_option linter.unusedSimpArgs false
namespace Go.Proofs.Ytkelnaphjekenaa.Ev
open Go.Proofs.Ytkelnaphjekenaa.Eng
open Go.RowKit (wrap64)
theorem sameFeed_self (xs : List impl_Change) (hx : xs.length ≤ 1000000000000) : laws_sameFeed xs xs = some (true, ()) := by
  rw [laws_sameFeed_eq, decide_eq_true rfl]
  refine refl_loop0 (true, ()) xs.length (fun i => laws_sameFeed_4 xs xs i) (fun i h0 h1 => ?_)
  rw [laws_sameFeed_4_eq]
  by_cases hi : i < (xs.length : Int)
  · simp only [cond_dec, if_pos h0, if_pos hi, w64 (n := i + 1) (by omega) (by omega), eqI_dec, sEq_dec, decide_true, Bool.and_self, Bool.not_true, cond_false]
  · simp only [cond_dec, if_neg hi]
theorem samePairs_self (xs : List impl_Pair) (hx : xs.length ≤ 1000000000000) : laws_samePairs xs xs = some (true, ()) := by
  rw [laws_samePairs_eq, decide_eq_true rfl]
  refine refl_loop0 (true, ()) xs.length (fun i => laws_samePairs_4 xs xs i) (fun i h0 h1 => ?_)
  rw [laws_samePairs_4_eq]
  by_cases hi : i < (xs.length : Int)
  · simp only [cond_dec, if_pos h0, if_pos hi, w64 (n := i + 1) (by omega) (by omega), eqI_dec, sEq_dec, decide_true, Bool.and_self, Bool.not_true, cond_false]
  · simp only [cond_dec, if_neg hi]
theorem feedFrom_mem : ∀ (l : List impl_Change) (p : Int), feedFrom p l = true → ∀ c ∈ l, 0 ≤ c.Index ∧ c.Index ≤ 23
  | [], p, h, c, hc => by cases hc
  | x :: l, p, h, c, hc => by
    simp only [feedFrom, feedItem, Bool.and_eq_true, decide_eq_true_eq] at h
    rcases List.mem_cons.1 hc with rfl | hc
    · omega
    · exact feedFrom_mem l _ h.2 c hc
theorem loop16 (g : Bool) (n : Int) (hn : 0 ≤ n) (hn2 : n ≤ 1000) (x : List impl_Change) (z : impl_State) (p : List impl_Pair) (xs : List impl_Change) (q : List impl_Pair) (k : List impl_Session) (hx : xs.length ≤ 1000) : ∀ (ys : List impl_Change) (i : Int) (out : List impl_Change), 0 ≤ i → i ≤ xs.length → xs.drop i.toNat = ys → (∀ c ∈ ys, 0 ≤ c.Index ∧ c.Index ≤ 23) → out.length ≤ 1000 + i.toNat →
    laws_FnChangesOf_16 g n i x z p out xs q k = laws_FnChangesOf_16 g n xs.length x z p (out ++ ys.map (shift n)) xs q k
  | [], i, out, h0, h1, hd, hc, ho => by
    have := drop_nil h0 h1 hd
    rw [this]; simp
  | y :: ys, i, out, h0, h1, hd, hc, ho => by
    obtain ⟨hr, hl, hd'⟩ := rd_drop (d := z_impl_Change) h0 hd
    have hy := hc y List.mem_cons_self
    have ih := loop16 g n hn hn2 x z p xs q k hx ys (i + 1) (out ++ [shift n y]) (by omega) (by omega) hd' (fun c h => hc c (List.mem_cons_of_mem _ h)) (by simp; omega)
    rw [laws_FnChangesOf_16_eq]
    simp only [cond_dec, if_pos hl, if_pos h0, hr, w64 (n := i + 1) (by omega) (by omega), w64 (n := y.Index + n) (by omega) (by omega)]
    rw [ble_row (by simp; omega) (by omega), cond_true]
    refine Eq.trans ih ?_
    rw [List.map_cons, List.append_assoc]; rfl
theorem entriesOk_iff (l : List impl_Entry) : entriesOk l = true ↔ l.length ≤ 24 ∧ ∀ e ∈ l, entryOk e = true := by
  simp only [entriesOk, Bool.and_eq_true, decide_eq_true_eq, List.all_eq_true]
theorem chR_no {s : impl_State} {l : List impl_Entry} (h : ¬ (stateOk s = true ∧ entriesOk l = true)) : chR s l = [] := by unfold chR; rw [if_neg h]
theorem chR_yes {s : impl_State} {l : List impl_Entry} (h : stateOk s = true) (h2 : entriesOk l = true) : chR s l = chFrom s 0 l := by unfold chR; rw [if_pos ⟨h, h2⟩]
theorem replay_yes {s : impl_State} {l : List impl_Entry} (h : stateOk s = true) (h2 : entriesOk l = true) : (replayR s l).1 = endOf s l := by unfold replayR; rw [if_pos ⟨h, h2⟩, runE_end]
theorem eta_State (s : impl_State) : impl_State.mk s.Span s.Pairs s.Known s.Sealed s.Cut = s := rfl
theorem main (s : impl_State) (l : List impl_Entry) (hk : s.Known.length ≤ 1000) (hl : l.length ≤ 1000) (h1 : stateOk s = true) (h2 : entriesOk l = true) :
    (impl_ApplyFeed s.Pairs (chR s l)).bind (fun r9 => laws_FnChangesOf_12 r9.1.2.1 (wrap64 (Int.tdiv (List.length l : Int) (2 : Int))) (impl_State.mk s.Span ([] : List impl_Pair) ([] : List impl_Session) s.Sealed s.Cut) l (chR s l) (impl_State.mk (replayR s l).1.Span ([] : List impl_Pair) ([] : List impl_Session) (replayR s l).1.Sealed (replayR s l).1.Cut) r9.1.1 s.Pairs s.Known (replayR s l).1.Pairs (replayR s l).1.Known) = some (true, ()) := by
  obtain ⟨l24, lall⟩ := (entriesOk_iff l).1 h2
  have hn : Int.tdiv (l.length : Int) 2 = ((l.length / 2 : Nat) : Int) := by rw [Int.tdiv_eq_ediv_of_nonneg (by omega)]; omega
  have ha : entriesOk (l.take (l.length / 2)) = true := (entriesOk_iff _).2 ⟨by simp; omega, fun e he => lall e (List.mem_of_mem_take he)⟩
  have hb : entriesOk (l.drop (l.length / 2)) = true := (entriesOk_iff _).2 ⟨by simp; omega, fun e he => lall e (List.mem_of_mem_drop he)⟩
  have hab : l.take (l.length / 2) ++ l.drop (l.length / 2) = l := List.take_append_drop _ _
  have hal := ((entriesOk_iff _).1 ha).2
  have hbl := ((entriesOk_iff _).1 hb).2
  have hm : stateOk (endOf s (l.take (l.length / 2))) = true := endOf_ok _ _ h1 hal
  have ek := stateOk_len hm
  obtain ⟨f1, f2⟩ := chFrom_feed l s 0 (-1) h1 lall (by omega) (by omega) (by omega)
  obtain ⟨g1, g2⟩ := chFrom_feed (l.take (l.length / 2)) s 0 (-1) h1 hal (by omega) (by simp; omega) (by omega)
  obtain ⟨q1, q2⟩ := chFrom_feed (l.drop (l.length / 2)) _ 0 (-1) hm hbl (by omega) (by simp; omega) (by omega)
  have fok : feedOk (chFrom s 0 l) = true := by unfold feedOk; rw [f1, decide_eq_true (by omega)]; rfl
  have hap : applyFeed s.Pairs (chFrom s 0 l) = ((endOf s l).Pairs, true) := by
    unfold applyFeed
    rw [if_pos ⟨((stateOk_iff s).1 h1).2.1, fok⟩]
    exact chFrom_apply l s 0 h1 lall
  have hj : chFrom s 0 (l.take (l.length / 2)) ++ (chFrom (endOf s (l.take (l.length / 2))) 0 (l.drop (l.length / 2))).map (shift ((l.length / 2 : Nat) : Int)) = chFrom s 0 l := by
    rw [← chFrom_shift, ← congrArg (chFrom s 0) hab, chFrom_app, List.length_take, show min (l.length / 2) l.length = l.length / 2 by omega]
  have cb : cutList l ((l.length / 2 : Nat) : Int) (l.length : Int) = l.drop (l.length / 2) := cut_all l _
  have ca : cutList l 0 ((l.length / 2 : Nat) : Int) = l.take (l.length / 2) := cut_to l _
  rw [hn, w64 (n := ((l.length / 2 : Nat) : Int)) (by omega) (by omega), chR_yes h1 h2, impl_ApplyFeed_f, hap, Option.bind_some, laws_FnChangesOf_12_eq]
  dsimp only
  rw [ca, cb, eta_State, impl_Replay_f s _ (by omega), impl_ChangesOf_f s _ (by omega), chR_yes h1 ha]
  simp only [cond_dec, Option.bind_some, replay_yes h1 ha, replay_yes h1 h2, impl_ChangesOf_f _ (l.drop (l.length / 2)) (show (endOf s (l.take (l.length / 2))).Known.length ≤ 1000000000000 by omega), chR_yes hm hb]
  have tl : (l.take (l.length / 2)).length ≤ 24 := by simp; omega
  have dl : (l.drop (l.length / 2)).length ≤ 24 := by simp; omega
  rw [if_pos (by omega), if_pos (by omega), if_pos (by omega), if_pos (by omega), ble_row (by simp; omega) (by omega), cond_true, if_pos (by omega), if_pos (by omega)]
  rw [loop16 true ((l.length / 2 : Nat) : Int) (by omega) (by omega) _ _ _ _ _ _ (by omega) (chFrom (endOf s (l.take (l.length / 2))) 0 (l.drop (l.length / 2))) 0 _ (by omega) (by omega) rfl (feedFrom_mem _ _ q1) (by omega), hj, laws_FnChangesOf_16_eq, cond_dec, if_neg (by omega)]
  have e48 := (stateOk_len (endOf_ok l s h1 lall)).1
  rw [samePairs_self _ (by omega), Option.bind_some, impl_FeedValid_f, fok, Option.bind_some, sameFeed_self _ (by omega)]
  rfl
theorem law (a0 : List Int) (h0 : Bnd (.sl (.int .u8)) a0) : laws_FnChangesOf a0 = some (true, ()) := by
  have hb : ∀ x ∈ a0, 0 ≤ x ∧ x ≤ 255 := fun x hx => wf8 (h0.2 x hx)
  rw [laws_FnChangesOf_eq, cond_dec]
  by_cases hk : 1048576 < (a0.length : Int)
  · rw [if_pos hk]
  rw [if_neg hk]
  obtain ⟨x, e, ⟨hp, hkn⟩, hl⟩ := DrawReplay_t hb
  have ed : spec_DrawChangesOf a0 = some (((x.1.1, (x.1.2.1, ())), ())) := by rw [spec_DrawChangesOf_eq, e]; rfl
  rw [ed, Option.bind_some]
  dsimp only
  generalize x.1.1 = s at *
  generalize x.1.2.1 = l at *
  have hch : (chR s l).length ≤ 24 := by
    unfold chR
    split
    · rename_i h
      have := (chFrom_feed l s 0 (-1) h.1 ((entriesOk_iff l).1 h.2).2 (by omega) (by have := ((entriesOk_iff l).1 h.2).1; omega) (by omega)).2
      have := ((entriesOk_iff l).1 h.2).1
      omega
    · simp
  rw [impl_ChangesOf_f s l (by omega), Option.bind_some, spec_ChangesOf_f s l (by omega) (by omega), Option.bind_some, sameFeed_self _ (Nat.le_trans hch (by omega)), Option.bind_some, Bool.not_true, cond_false, impl_Replay_f s l (by omega), Option.bind_some, impl_StateValid_f s (by omega), Option.bind_some]
  dsimp only
  by_cases h1 : stateOk s = true
  · rw [h1, Bool.not_true, cond_false]
    by_cases h2 : entriesOk l = true
    · have hrl : (replayR s l).2.length = l.length := by
        unfold replayR
        rw [if_pos ⟨h1, h2⟩]
        have h4 := stateOk_len h1
        rw [(runE_len l s [] h4.1 (by omega)).2.2]; simp
      rw [hrl, decide_eq_true rfl, Bool.not_true, cond_false]
      exact main s l (by omega) (by omega) h1 h2
    · have hch0 := chR_no (s := s) (l := l) fun h => h2 h.2
      have hre : (replayR s l).2 = [] := by unfold replayR; rw [if_neg fun h => h2 h.2]
      have hne : l.length ≠ 0 := fun h => h2 (by rw [List.eq_nil_of_length_eq_zero h]; rfl)
      rw [hre, hch0, decide_eq_false (show ¬ ((([] : List Int).length : Int) = (l.length : Int)) by simp only [List.length_nil]; omega), Bool.not_false, cond_true, decide_eq_true (show ((([] : List impl_Change).length : Int) = 0) from rfl), cond_true, alive_f]; rfl
  · have hch0 := chR_no (s := s) (l := l) fun h => h1 h.1
    rw [Bool.eq_false_iff.2 h1, Bool.not_false, cond_true, hch0, decide_eq_true (show ((([] : List impl_Change).length : Int) = 0) from rfl), cond_true, alive_f]; rfl
end Go.Proofs.Ytkelnaphjekenaa.Ev
