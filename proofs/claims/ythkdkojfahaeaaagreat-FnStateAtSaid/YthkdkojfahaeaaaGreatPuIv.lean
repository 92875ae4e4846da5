/- Steps, plays and settling of a chain, as the program makes them. No condition. -/
import Derived.Test.YthkdkojfahaeaaaGreatPuIu
set_option linter.unusedVariables false
set_option linter.unusedSimpArgs false
set_option linter.unusedSectionVars false
namespace Go.Proofs.YthkdkojfahaeaaaGreat.Ev
open Go.Proofs.YthkdkojfahaeaaaGreat.Eng
open Go.RowKit (wrap64)
/-! ### An event -/
theorem sends_i (c : impl_Chain) (e : Int) (m : impl_Message) (hl : BagOk e c.Bag) (hm : messageOk m = true) (he : m.Epoch ≤ e) : Tot (impl_sends c m) (fun x => ∃ B, BagOk e B ∧ x.2.1 = ⟨c.Base, c.Conf, c.Nodes, c.Up, B, c.Answers⟩) := by
  rw [impl_sends_eq, eta_Message]
  exact (bagAdd_i e c.Bag m hl hm he).bind fun x hx => Tot.val ⟨_, hx, rfl⟩
theorem answers5_i (c : impl_Chain) (h : ChOk c) (N : List impl_Replica) (l : List impl_Entry) (q : List Int) (hr : entriesOk l = true) (hq : q.length = l.length) (hq2 : ∀ x ∈ q, -4 ≤ x ∧ x ≤ 999) :
    ∀ (j : Nat) (i : Int) (s0 : impl_Chain) (A : List impl_Answer), i + j = l.length → 0 ≤ i → A.length ≤ i.toNat → (∀ a ∈ A, answerOk a = true) → (∃ t, A = c.Answers ++ t) → s0.Nodes = N → s0.Base.Span = c.Base.Span → s0.Base.Sealed = c.Base.Sealed → s0.Base.Cut = c.Base.Cut → s0.Conf.Epoch = c.Conf.Epoch → s0.Conf.Fresh = c.Conf.Fresh →
    Tot (impl_answers_5 l i s0 q c.Base.Pairs c.Base.Known c.Conf.Members c.Up c.Bag A) (fun x => ∃ A', (A'.length ≤ 24 ∧ ∀ a ∈ A', answerOk a = true) ∧ (∃ t, A' = c.Answers ++ t) ∧ x.2.1 = ⟨c.Base, c.Conf, N, c.Up, c.Bag, A'⟩)
  | 0, i, s0, A, hj, h0, hl, ha, hp, b0, b1, b2, b3, b4, b5 => by
    have h24 := entriesOk_len hr
    rw [impl_answers_5_eq, cond_dec, if_neg (by omega), b0, b1, b2, b3, b4, b5]
    exact Tot.val ⟨A, ⟨by omega, ha⟩, hp, rfl⟩
  | j + 1, i, s0, A, hj, h0, hl, ha, hp, b0, b1, b2, b3, b4, b5 => by
    have h24 := entriesOk_len hr
    have hi : i < (l.length : Int) := by omega
    have hiq : i < (q.length : Int) := by omega
    rw [impl_answers_5_eq]
    simp only [cond_dec, if_pos hi, if_pos h0, if_pos hiq]
    rw [ble_row (by simp; omega) (by omega), cond_true, w64 (n := i + 1) (by omega) (by omega)]
    refine answers5_i c h N l q hr hq hq2 j (i + 1) _ _ (by omega) (by omega) (by simp; omega) (fun a hm => ?_) ?_ b0 b1 b2 b3 b4 b5
    · rcases List.mem_append.1 hm with hm | hm
      · exact ha a hm
      · rw [List.mem_singleton.1 hm]
        have h1 := ((entriesOk_iff _).1 hr).2 _ (rd_mem (d := z_impl_Entry) h0 hi)
        have h2 := hq2 _ (rd_mem (d := (0 : Int)) (xs := q) h0 (by omega))
        simp only [answerOk, Bool.and_eq_true, decide_eq_true_eq]
        exact ⟨h1, h2⟩
    · obtain ⟨t, ht⟩ := hp
      exact ⟨t ++ [_], by rw [ht, List.append_assoc]⟩
theorem nodeActs_i (c : impl_Chain) (e : impl_Event) (h : ChOk c) (hn : 0 ≤ e.Node ∧ e.Node ≤ 4) (hs : e.Kind = 1 → entryOk e.Sent = true) : Tot (impl_nodeActs c e) (fun x => Step c x.2.1) := by
  have hn5 := h.n5
  have same : Step c c := Step.refl h
  have hnd := h.nodes (rdAt c.Nodes (Int.toNat e.Node) z_impl_Replica) (rd_mem hn.1 (by omega))
  have hlen := replicaOk_len hnd.1
  rw [impl_nodeActs_eq]
  have hN : e.Node < (c.Nodes.length : Int) := by omega
  simp only [cond_dec, eta_Replica, if_pos hn.1, if_pos hN]
  refine Tot.ite (fun k1 => ?_) fun _ => Tot.ite (fun _ => ?_) fun _ => Tot.ite (fun _ => ?_) fun _ => ?_
  · exact (submitEntry_i c.Conf.Epoch _ e.Node e.Sent hnd hn (hs k1)).bind fun y hy => Tot.val (h.setNode _ hy).st
  · refine (copyTarget_i _ e.Node hnd.1).bind fun q hq => Tot.ite (fun hge => ?_) fun hneg => Tot.val same
    have hq := hq.resolve_left (by omega)
    obtain ⟨hc, hl⟩ := replicaOk_ready hnd.1 hq.2
    have hc := (configOk_iff _).1 hc
    refine (sends_i ⟨c.Base, ⟨c.Conf.Epoch, [], c.Conf.Fresh⟩, [], c.Up, c.Bag, c.Answers⟩ c.Conf.Epoch _ h.bag ?_ hnd.2).bind fun x hx => ?_
    · have e0 := hc.e0
      have e1 := hc.e1
      simp [messageOk, e0, e1, hq.1.1, hq.1.2, hl, noConf]
    · obtain ⟨B, hB, e1⟩ := hx
      rw [e1]; exact Tot.val (h.setBag hB).st
  · refine (isTail_i _ e.Node hnd.1).bind fun q hq => Tot.bif (fun ht => Tot.bif (fun _ => ?_) fun _ => Tot.val same) fun ht => Tot.val same
    obtain ⟨hc, hl⟩ := replicaOk_ready hnd.1 (hq ht)
    have hc := (configOk_iff _).1 hc
    refine (sends_i ⟨c.Base, ⟨c.Conf.Epoch, [], c.Conf.Fresh⟩, [], c.Up, c.Bag, c.Answers⟩ c.Conf.Epoch _ h.bag ?_ hnd.2).bind fun x hx => ?_
    · have e0 := hc.e0
      have e1 := hc.e1
      simp [messageOk, e0, e1, noConf]
    · obtain ⟨B, hB, e1⟩ := hx
      rw [e1]; exact Tot.val (h.setBag hB).st
  · refine (isTail_i _ e.Node hnd.1).bind fun q hq => Tot.bif (fun ht => ?_) fun ht => Tot.val same
    obtain ⟨hc, hl⟩ := replicaOk_ready hnd.1 (hq ht)
    obtain ⟨r1, r2⟩ := replayR_rep h.base hl
    have hk := sessOk_len ((stateOk_iff _).1 h.base).2.2.1
    have hT : Tot (impl_answers ⟨c.Base, c.Conf, [], c.Up, c.Bag, c.Answers⟩ (rdAt c.Nodes (Int.toNat e.Node) z_impl_Replica).Log) (fun x => ∃ A', (A'.length ≤ 24 ∧ ∀ a ∈ A', answerOk a = true) ∧ (∃ t, A' = c.Answers ++ t) ∧ x.2.1 = ⟨c.Base, c.Conf, [], c.Up, c.Bag, A'⟩) := by
      rw [impl_answers_eq, cond_dec]
      refine Tot.ite (fun _ => Tot.val ⟨c.Answers, h.ans, ⟨[], (List.append_nil _).symm⟩, rfl⟩) fun hgt => ?_
      rw [impl_Replay_f _ _ (by dsimp only; omega), Option.bind_some]
      have hgt : ¬ ((rdAt c.Nodes (Int.toNat e.Node) z_impl_Replica).Log.length : Int) ≤ (c.Answers.length : Int) := hgt
      exact answers5_i c h [] (rdAt c.Nodes (Int.toNat e.Node) z_impl_Replica).Log _ hl r1 r2 ((rdAt c.Nodes (Int.toNat e.Node) z_impl_Replica).Log.length - c.Answers.length) (c.Answers.length : Int) _ c.Answers (by omega) (by omega) (by omega) h.ans.2 ⟨[], (List.append_nil _).symm⟩ rfl rfl rfl rfl rfl rfl
    refine hT.bind fun x hx => ?_
    obtain ⟨A', hA, hp, e1⟩ := hx
    rw [e1]
    exact Tot.val ⟨⟨h.base, h.conf, h.n5, h.u5, h.nodes, h.bag, hA⟩, rfl, hp⟩
theorem arrives_i (c : impl_Chain) (m : impl_Message) (h : ChOk c) (hm : messageOk m = true) (hme : m.Epoch ≤ c.Conf.Epoch) : Tot (impl_arrives c m) (fun x => Step c x.2.1 ∧ x.2.1.Bag = c.Bag) := by
  have hn5 := h.n5
  have hu5 := h.u5
  have same : Step c c := Step.refl h
  obtain ⟨hep, hk⟩ := messageOk_kinds hm
  rw [impl_arrives_eq]
  simp only [cond_dec, eta_Replica]
  refine Tot.ite (fun _ => Tot.ite (fun _ => (configDone_i c.Conf ((configOk_iff _).1 h.conf)).bind fun k hk => Tot.val ⟨(h.setConf hk.1 (by omega)).st, rfl⟩) fun _ => Tot.val ⟨same, rfl⟩) fun k3 => ?_
  have hto : 0 ≤ m.To ∧ m.To ≤ 4 := by
    rcases hk with hk | hk | hk
    · exact hk.2.1
    · exact hk.2.1
    · exact absurd hk k3
  have hN : m.To < (c.Nodes.length : Int) := by omega
  rw [if_pos hto.1, if_pos (by omega)]
  refine Tot.bif (fun _ => Tot.val ⟨same, rfl⟩) fun _ => ?_
  have hnd := h.nodes (rdAt c.Nodes (Int.toNat m.To) z_impl_Replica) (rd_mem hto.1 (by omega))
  simp only [if_pos hto.1, if_pos hN]
  refine Tot.ite (fun k1 => ?_) fun k1 => Tot.ite (fun k2 => ?_) fun k2 => Tot.val ⟨same, rfl⟩
  · have hc : configOk m.Conf = true ∧ m.Conf.Epoch = m.Epoch := by
      rcases hk with hk | hk | hk
      · exact hk.2.2
      · omega
      · exact absurd hk k3
    exact (enterConfig_i c.Conf.Epoch _ m.To m.Conf hnd hto hc.1 (by omega)).bind fun y hy => Tot.val ⟨(h.setNode _ hy).st, rfl⟩
  · have hc : entriesOk m.Log = true := by
      rcases hk with hk | hk | hk
      · exact absurd hk.1 k1
      · exact hk.2.2
      · exact absurd hk k3
    exact (takeCopy_i c.Conf.Epoch _ m.Epoch m.Log hnd hep hc).bind fun y hy => Tot.val ⟨(h.setNode _ hy).st, rfl⟩
theorem messageMoves_i (c : impl_Chain) (e : impl_Event) (h : ChOk c) : Tot (impl_messageMoves c e) (fun x => Step c x.2.1 ∧ (e.Kind = 4 → 0 ≤ e.Place → e.Place < c.Bag.length → x.1 = true ∧ x.2.1.Bag.length + 1 = c.Bag.length)) := by
  rw [impl_messageMoves_eq]
  simp only [cond_dec, eta_Message]
  refine Tot.ite (fun k5 => (bagRepeat_i _ _ _ h.bag).bind fun x hx => Tot.val ⟨(h.setBag hx).st, fun k => absurd k (by omega)⟩) fun k5 => (bagTake_i c.Conf.Epoch _ _ h.bag).bind fun x hx => ?_
  have sb := h.setBag hx.1
  refine Tot.bif (fun hok => Tot.ite (fun k3 => ?_) fun k3 => Tot.val ⟨sb.st, fun _ h0 h1 => hx.2.2 h0 h1⟩) fun hok => Tot.val ⟨sb.st, fun _ h0 h1 => hx.2.2 h0 h1⟩
  obtain ⟨hm, hme⟩ := hx.2.1 hok
  exact (arrives_i ⟨c.Base, c.Conf, c.Nodes, c.Up, x.1.2.1, c.Answers⟩ x.1.1 sb.st.ok hm hme).bind fun y hy => Tot.val ⟨sb.st.trans hy.1, fun k => absurd k (by omega)⟩
theorem masterActs_i (c : impl_Chain) (e : impl_Event) (h : ChOk c) (hn : 0 ≤ e.Node ∧ e.Node ≤ 4) : Tot (impl_masterActs c e) (fun x => Step c x.2.1) := by
  have hc := (configOk_iff _).1 h.conf
  have hm4 := hc.n1
  have same : Step c c := Step.refl h
  rw [impl_masterActs_eq]
  simp only [cond_dec]
  refine Tot.ite (fun k6 => ?_) fun k6 => Tot.ite (fun k11 => ?_) fun k11 => Tot.ite (fun k12 => ?_) fun k12 => Tot.val same
  · rw [slices_Contains_f _ _ (by omega), Option.bind_some]
    refine Tot.bif (fun _ => (sends_i ⟨c.Base, ⟨c.Conf.Epoch, [], c.Conf.Fresh⟩, [], c.Up, c.Bag, c.Answers⟩ c.Conf.Epoch _ h.bag ?_ (Int.le_refl _)).bind fun x hx => ?_) fun _ => Tot.val same
    · have e0 := hc.e0
      have e1 := hc.e1
      simp [messageOk, e0, e1, hn.1, hn.2, h.conf]
    · obtain ⟨B, hB, e1⟩ := hx
      rw [e1]; exact Tot.val (h.setBag hB).st
  · exact (withoutMember_i c.Conf e.Node hc).bind fun x hx => Tot.val (h.setConf hx.1 hx.2).st
  · exact (withMember_i c.Conf e.Node hc hn).bind fun x hx => Tot.val (h.setConf hx.1 hx.2).st
theorem happens_i (c : impl_Chain) (e : impl_Event) (h : ChOk c) (he : EvOk e) : Tot (impl_happens c e) (fun x => Step c x.2.1 ∧ (e.Kind = 4 → 0 ≤ e.Place → e.Place < c.Bag.length → x.1 = true ∧ x.2.1.Bag.length + 1 = c.Bag.length)) := by
  have hu5 := h.u5
  have hn := he.node
  have same : Step c c := Step.refl h
  have hU : e.Node < (c.Up.length : Int) := by omega
  have six : ∀ {s0 : impl_Chain}, e.Kind ≠ 4 → s0.Base.Span = c.Base.Span → s0.Base.Sealed = c.Base.Sealed → s0.Base.Cut = c.Base.Cut → s0.Conf.Epoch = c.Conf.Epoch → s0.Conf.Fresh = c.Conf.Fresh →
      Tot (impl_happens_6 s0 e c.Base.Pairs c.Base.Known c.Conf.Members c.Nodes c.Up c.Bag c.Answers) (fun x => Step c x.2.1 ∧ (e.Kind = 4 → 0 ≤ e.Place → e.Place < c.Bag.length → x.1 = true ∧ x.2.1.Bag.length + 1 = c.Bag.length)) := by
    intro s0 k4 b1 b2 b3 b4 b5
    rw [impl_happens_6_eq, b1, b2, b3, b4, b5]
    simp only [cond_dec, if_pos hn.1, if_pos hU]
    refine Tot.bif (fun _ => (nodeActs_i c e h hn fun k1 => ?_).bind fun x hx => Tot.val ⟨hx, fun k => absurd k k4⟩) fun _ => Tot.val ⟨same, fun k => absurd k k4⟩
    rcases he.sent with ⟨_, h2⟩ | ⟨h1, _⟩
    · exact h2
    · exact absurd k1 h1
  have mv : Tot ((impl_messageMoves c e).bind fun r1 => some (r1.1, ((impl_Chain.mk r1.2.1.Base r1.2.1.Conf r1.2.1.Nodes r1.2.1.Up r1.2.1.Bag r1.2.1.Answers), ()))) (fun x => Step c x.2.1 ∧ (e.Kind = 4 → 0 ≤ e.Place → e.Place < c.Bag.length → x.1 = true ∧ x.2.1.Bag.length + 1 = c.Bag.length)) :=
    (messageMoves_i c e h).bind fun x hx => Tot.val hx
  rw [impl_happens_eq]
  simp only [cond_dec, eta_Chain, if_pos hn.1, if_pos hU]
  refine Tot.ite (fun k => six (by omega) rfl rfl rfl rfl rfl) fun _ => Tot.ite (fun k => six (by omega) rfl rfl rfl rfl rfl) fun _ => Tot.ite (fun k => six (by omega) rfl rfl rfl rfl rfl) fun _ => Tot.ite (fun k => six (by omega) rfl rfl rfl rfl rfl) fun _ =>
    Tot.ite (fun k => mv) fun _ => Tot.ite (fun k => mv) fun k4 => Tot.ite (fun k => mv) fun _ => Tot.ite (fun k => ?_) fun _ => Tot.ite (fun k => ?_) fun _ => ?_
  · exact Tot.bif (fun _ => Tot.val ⟨same, fun k => absurd k k4⟩) fun _ => Tot.val ⟨h.setUp _ _, fun k => absurd k k4⟩
  · exact Tot.bif (fun _ => Tot.val ⟨same, fun k => absurd k k4⟩) fun _ => Tot.val ⟨h.setUp _ _, fun k => absurd k k4⟩
  · exact (masterActs_i c e h hn).bind fun x hx => Tot.val ⟨hx, fun k => absurd k k4⟩
theorem eventValid_i (e : impl_Event) : Tot (impl_EventValid e) (fun x => x.1 = true ↔ EvOk e) := by
  have no : ¬ EvOk e → Tot (some (false, ()) : Option (Bool × Unit)) (fun x => x.1 = true ↔ EvOk e) := fun h => Tot.val ⟨fun k => (by cases k), fun k => absurd k h⟩
  rw [impl_EventValid_eq]
  simp only [cond_dec, impl_nodeValid_f, Option.bind_some]
  refine Tot.ite (fun k => no fun h => absurd h.kind (by omega)) fun k1 => Tot.ite (fun k => no fun h => absurd h.kind (by omega)) fun k2 => Tot.bif (fun hn => no fun h => ?_) fun hn => Tot.ite (fun k => no fun h => absurd h.place (by omega)) fun k3 => Tot.ite (fun k => no fun h => absurd h.place (by omega)) fun k4 => ?_
  · have := h.node
    rw [decide_eq_true this] at hn; cases hn
  · have hn : 0 ≤ e.Node ∧ e.Node ≤ 4 := by
      by_cases h : 0 ≤ e.Node ∧ e.Node ≤ 4
      · exact h
      · rw [decide_eq_false h] at hn; cases hn
    refine Tot.ite (fun k => ?_) fun k => ?_
    · rw [impl_EntryValid_f, Option.bind_some]
      exact Tot.val ⟨fun hx => ⟨by omega, hn, by omega, .inl ⟨k, hx⟩⟩, fun hx => by
        rcases hx.sent with ⟨_, h2⟩ | ⟨h1, _⟩
        · exact h2
        · exact absurd k h1⟩
    · refine Tot.val ⟨fun hx => ⟨by omega, hn, by omega, .inr ⟨k, ?_⟩⟩, fun hx => ?_⟩
      · simp only [Bool.and_eq_true, eqI_dec, sEq_dec, decide_eq_true_eq, Bool.true_and] at hx
        obtain ⟨_, _, _, ⟨a, b, ⟨c1, c2, c3, c4⟩⟩⟩ := e
        dsimp only at hx
        obtain ⟨⟨⟨⟨⟨h1, h2⟩, h3⟩, h4⟩, h5⟩, h6⟩ := hx
        subst h1 h2 h3 h4 h5 h6
        rfl
      · rcases hx.sent with ⟨h1, _⟩ | ⟨_, h2⟩
        · exact absurd h1 k
        · rw [h2]; simp [eqI_dec, sEq_dec]
theorem chainStep_i (c : impl_Chain) (e : impl_Event) (h : ChOk c) (he : EvOk e) : Tot (impl_ChainStep c e) (fun x => Step c x.1.1 ∧ (e.Kind = 4 → 0 ≤ e.Place → e.Place < c.Bag.length → x.1.1.Bag.length + 1 = c.Bag.length)) := by
  obtain ⟨b, hb, hb2⟩ := eventValid_i e
  have hb3 := hb2.2 he
  rw [impl_ChainStep_eq, eta_Chain, impl_ChainValid_f c h.inn, Option.bind_some, (chainOk_iff c).2 h, hb, Option.bind_some, hb3, copyChain_i c h]
  simp only [Bool.not_true, cond_false, Option.bind_some, eta_Chain]
  refine (happens_i c e h he).bind fun x hx => Tot.bif (fun hf => Tot.val ⟨Step.refl h, fun k h0 h1 => ?_⟩) fun _ => Tot.val ⟨hx.1, fun k h0 h1 => (hx.2 k h0 h1).2⟩
  have := (hx.2 k h0 h1).1
  rw [this] at hf; cases hf
theorem tries_i (c : impl_Chain) (k n : Int) (h : ChOk c) (hk : 2 ≤ k ∧ k ≤ 12) (hn : 0 ≤ n ∧ n ≤ 4) : Tot (impl_tries c k n) (fun x => Step c x.2.1 ∧ (k = 4 → 0 < c.Bag.length → x.2.1.Bag.length + 1 = c.Bag.length)) := by
  rw [impl_tries_eq, eta_Chain]
  exact (chainStep_i c ⟨k, n, 0, ⟨0, 0, ⟨0, es, 0, 0⟩⟩⟩ h ⟨by show 1 ≤ k ∧ k ≤ 12; omega, hn, by show (0 : Int) ≤ 0 ∧ (0 : Int) ≤ 9; omega, .inr ⟨by show k ≠ 1; omega, rfl⟩⟩).bind fun x hx => Tot.val ⟨hx.1, fun e h0 => hx.2 e (Int.le_refl 0) (by show (0 : Int) < (c.Bag.length : Int); omega)⟩
/-! ### Plays -/
abbrev shc (c : impl_Chain) : impl_Chain := ⟨⟨c.Base.Span, [], [], c.Base.Sealed, c.Base.Cut⟩, ⟨c.Conf.Epoch, [], c.Conf.Fresh⟩, [], [], [], []⟩
theorem play11_i (l : List impl_Event) (hl : l.length ≤ 60) (he : ∀ e ∈ l, EvOk e) (s0 : impl_Chain) (t2 : List impl_Pair) (t3 : List impl_Session) (t4 : List Int) (t5 : List impl_Replica) (t6 : List Bool) (t7 : List impl_Message) (t8 : List impl_Answer) :
    ∀ (j : Nat) (i : Int) (c s1 : impl_Chain), i + j = l.length → 0 ≤ i → ChOk c → s1.Base.Span = c.Base.Span → s1.Base.Sealed = c.Base.Sealed → s1.Base.Cut = c.Base.Cut → s1.Conf.Epoch = c.Conf.Epoch → s1.Conf.Fresh = c.Conf.Fresh →
    Tot (impl_ChainPlay_11 l (l.length : Int) i s0 s1 t2 t3 t4 t5 t6 t7 t8 c.Base.Pairs c.Base.Known c.Conf.Members c.Nodes c.Up c.Bag c.Answers) (fun x => Step c x.1)
  | 0, i, c, s1, hj, h0, hc, b1, b2, b3, b4, b5 => by
    rw [impl_ChainPlay_11_eq, cond_dec, if_neg (by omega), b1, b2, b3, b4, b5]
    exact Tot.val (Step.refl hc)
  | j + 1, i, c, s1, hj, h0, hc, b1, b2, b3, b4, b5 => by
    have hi : i < (l.length : Int) := by omega
    rw [impl_ChainPlay_11_eq, b1, b2, b3, b4, b5]
    simp only [cond_dec, if_pos hi, if_pos h0, w64 (n := i + 1) (by omega) (by omega)]
    refine (chainStep_i c _ hc (he _ (rd_mem (d := z_impl_Event) h0 hi))).bind fun x hx => ?_
    exact (play11_i l hl he s0 t2 t3 t4 t5 t6 t7 t8 j (i + 1) x.1.1 (shc x.1.1) (by omega) (by omega) hx.1.ok rfl rfl rfl rfl rfl).mono fun y hy => hx.1.trans hy
def zChain : impl_Chain := ⟨⟨⟨es, es⟩, [], [], false, es⟩, ⟨0, [], false⟩, [], [], [], []⟩
theorem play4_i (l : List impl_Event) (hl : l.length ≤ 60) (c : impl_Chain) (hc : ChOk c) (s1 : impl_Chain) (t2 : List impl_Pair) (t3 : List impl_Session) (t4 : List Int) (t5 : List impl_Replica) (t6 : List Bool) (t7 : List impl_Message) (t8 : List impl_Answer) :
    ∀ (j : Nat) (i : Int), i + j = l.length → 0 ≤ i → (∀ e ∈ l.take i.toNat, EvOk e) → Tot (impl_ChainPlay_4 l l (l.length : Int) i c s1 t2 t3 t4 t5 t6 t7 t8) (fun x => x.1 = zChain ∨ Step c x.1)
  | 0, i, hj, h0, hv => by
    rw [impl_ChainPlay_4_eq, cond_dec, if_neg (by omega), eta_Chain, copyChain_i c hc, Option.bind_some]
    have hv' : ∀ e ∈ l, EvOk e := fun e he => hv e (by rw [List.take_of_length_le (by omega)]; exact he)
    exact (play11_i l hl hv' s1 t2 t3 t4 t5 t6 t7 t8 l.length 0 c (shc c) (by omega) (by omega) hc rfl rfl rfl rfl rfl).mono fun x hx => Or.inr hx
  | j + 1, i, hj, h0, hv => by
    have hi : i < (l.length : Int) := by omega
    rw [impl_ChainPlay_4_eq]
    simp only [cond_dec, if_pos hi, if_pos h0, w64 (n := i + 1) (by omega) (by omega)]
    refine (eventValid_i _).bind fun b hb => Tot.bif (fun _ => Tot.val (.inl rfl)) fun hb2 => ?_
    have hb2 : b.1 = true := by cases q : b.1 <;> simp [q] at hb2 ⊢
    refine play4_i l hl c hc s1 t2 t3 t4 t5 t6 t7 t8 j (i + 1) (by omega) (by omega) fun e he => ?_
    rw [show (i + 1).toNat = i.toNat + 1 by omega, List.take_add_one] at he
    rcases List.mem_append.1 he with he | he
    · exact hv e he
    · have hx : l[i.toNat]? = some (rdAt l i.toNat z_impl_Event) := by
        unfold rdAt
        rw [List.getD_eq_getElem?_getD, List.getElem?_eq_getElem (show i.toNat < l.length by omega)]; rfl
      rw [hx] at he
      have : e = rdAt l i.toNat z_impl_Event := by simpa using he
      rw [this]; exact hb.1 hb2
theorem chainPlay_i (c : impl_Chain) (l : List impl_Event) (hc : ChOk c) (hl : l.length ≤ 1000000) : Tot (impl_ChainPlay c l) (fun x => x.1 = zChain ∨ Step c x.1) := by
  rw [impl_ChainPlay_eq, eta_Chain, impl_ChainValid_f c hc.inn, Option.bind_some, (chainOk_iff c).2 hc]
  simp only [Bool.not_true, cond_false, cond_dec]
  refine Tot.ite (fun _ => Tot.val (.inl rfl)) fun h60 => ?_
  exact play4_i l (by omega) c hc _ _ _ _ _ _ _ _ l.length 0 (by omega) (by omega) fun e he => by simp at he
/-! ### Settling -/
section
variable (s0 : impl_Chain) (t3 : List impl_Pair) (t4 : List impl_Session) (t5 : List Int) (t6 : List impl_Replica) (t7 : List Bool) (t8 : List impl_Message) (t9 : List impl_Answer)
abbrev Shell (s c : impl_Chain) : Prop := s.Base.Span = c.Base.Span ∧ s.Base.Sealed = c.Base.Sealed ∧ s.Base.Cut = c.Base.Cut ∧ s.Conf.Epoch = c.Conf.Epoch ∧ s.Conf.Fresh = c.Conf.Fresh
theorem settle20_i (M : List Int) (hM : M.length ≤ 4) (hN : ∀ x ∈ M, 0 ≤ x ∧ x ≤ 4) (k : Int) (hk : 0 ≤ k ∧ k < M.length) (l : List Int) (hl : l.length ≤ 10) (hln : ∀ x ∈ l, 0 ≤ x ∧ x ≤ 4) : ∀ (j : Nat) (i : Int) (c s1 : impl_Chain), i + j = l.length → 0 ≤ i → ChOk c → Shell s1 c →
    Tot (impl_ChainSettle_20 k l (l.length : Int) i s0 s1 M t3 t4 t5 t6 t7 t8 t9 c.Base.Pairs c.Base.Known c.Conf.Members c.Nodes c.Up c.Bag c.Answers) (fun x => Step c x.1)
  | 0, i, c, s1, hj, h0, hc, hs => by
    obtain ⟨b1, b2, b3, b4, b5⟩ := hs
    rw [impl_ChainSettle_20_eq, cond_dec, if_neg (by omega), b1, b2, b3, b4, b5]
    simp only [cond_dec, if_pos hk.1, if_pos hk.2]
    have hx := hN _ (rd_mem (d := (0 : Int)) hk.1 hk.2)
    refine Tot.bif (fun _ => ?_) fun _ => ?_
    · refine (tries_i c 8 _ hc (by omega) hx).bind fun x hx1 => (tries_i x.2.1 3 0 hx1.1.ok (by omega) (by omega)).bind fun y hy => (tries_i y.2.1 7 _ hy.1.ok (by omega) hx).bind fun z hz => Tot.val ((hx1.1.trans hy.1).trans hz.1)
    · exact (tries_i c 7 _ hc (by omega) hx).bind fun z hz => Tot.val hz.1
  | j + 1, i, c, s1, hj, h0, hc, hs => by
    obtain ⟨b1, b2, b3, b4, b5⟩ := hs
    have hi : i < (l.length : Int) := by omega
    rw [impl_ChainSettle_20_eq, b1, b2, b3, b4, b5]
    simp only [cond_dec, if_pos hi, if_pos h0, w64 (n := i + 1) (by omega) (by omega)]
    have hx := hln _ (rd_mem (d := (0 : Int)) h0 hi)
    refine (tries_i c 2 _ hc (by omega) hx).bind fun x hx1 => (tries_i x.2.1 3 0 hx1.1.ok (by omega) (by omega)).bind fun y hy => ?_
    exact (settle20_i M hM hN k hk l hl hln j (i + 1) y.2.1 (shc y.2.1) (by omega) (by omega) hy.1.ok ⟨rfl, rfl, rfl, rfl, rfl⟩).mono fun z hz => (hx1.1.trans hy.1).trans hz
theorem settle14_i (M : List Int) (hM : 1 ≤ M.length ∧ M.length ≤ 4) (hN : ∀ x ∈ M, 0 ≤ x ∧ x ≤ 4) : ∀ (j : Nat) (i : Int) (c s1 : impl_Chain), i + j = M.length → 0 ≤ i → ChOk c → Shell s1 c →
    Tot (impl_ChainSettle_14 ((M.length : Int) - 1) (M.length : Int) i s0 s1 M t3 t4 t5 t6 t7 t8 t9 c.Base.Pairs c.Base.Known c.Conf.Members c.Nodes c.Up c.Bag c.Answers) (fun x => Step c x.1)
  | 0, i, c, s1, hj, h0, hc, hs => by
    have a := cutList_len M 0 ((M.length : Int) - 1)
    rw [impl_ChainSettle_14_eq, cond_dec, if_neg (by omega)]
    simp only [cond_dec]
    rw [if_pos (by omega), if_pos (by omega)]
    simp only [cutList] at a
    exact settle20_i s0 t3 t4 t5 t6 t7 t8 t9 M hM.2 hN _ (by omega) _ (by omega) (fun x hx => hN x (List.mem_of_mem_take (List.mem_of_mem_drop hx))) _ 0 c s1 (Int.zero_add _) (by omega) hc hs
  | j + 1, i, c, s1, hj, h0, hc, hs => by
    obtain ⟨b1, b2, b3, b4, b5⟩ := hs
    have hi : i < (M.length : Int) := by omega
    rw [impl_ChainSettle_14_eq, b1, b2, b3, b4, b5]
    simp only [cond_dec, if_pos hi, if_pos h0, w64 (n := i + 1) (by omega) (by omega)]
    have hx := hN _ (rd_mem (d := (0 : Int)) h0 hi)
    refine (tries_i c 6 _ hc (by omega) hx).bind fun x hx1 => (tries_i x.2.1 3 0 hx1.1.ok (by omega) (by omega)).bind fun y hy => ?_
    exact (settle14_i M hM hN j (i + 1) y.2.1 (shc y.2.1) (by omega) (by omega) hy.1.ok ⟨rfl, rfl, rfl, rfl, rfl⟩).mono fun z hz => (hx1.1.trans hy.1).trans hz
theorem settle9_i : ∀ (b : Nat) (c s1 : impl_Chain), c.Bag.length = b → ChOk c → Shell s1 c →
    Tot (impl_ChainSettle_9 s0 s1 t3 t4 t5 t6 t7 t8 t9 c.Base.Pairs c.Base.Known c.Conf.Members c.Nodes c.Up c.Bag c.Answers) (fun x => Step c x.1)
  | 0, c, s1, hb, hc, hs => by
    have hk := (configOk_iff _).1 hc.conf
    have n0 := hk.n0
    have n1 := hk.n1
    rw [impl_ChainSettle_9_eq, cond_dec, if_neg (by omega), impl_copyOf_int_eq, ble_row (by omega) (by omega), cond_true, Option.bind_some, w64 (n := (c.Conf.Members.length : Int) - 1) (by omega) (by omega)]
    exact settle14_i s0 t3 t4 t5 t6 t7 t8 t9 c.Conf.Members ⟨n0, n1⟩ hk.nodes c.Conf.Members.length 0 c s1 (by omega) (by omega) hc hs
  | b + 1, c, s1, hb, hc, hs => by
    obtain ⟨b1, b2, b3, b4, b5⟩ := hs
    rw [impl_ChainSettle_9_eq, cond_dec, if_pos (by omega), b1, b2, b3, b4, b5]
    refine (tries_i c 4 0 hc (by omega) (by omega)).bind fun x hx => ?_
    have := hx.2 rfl (by omega)
    exact (settle9_i b x.2.1 (shc x.2.1) (by omega) hx.1.ok ⟨rfl, rfl, rfl, rfl, rfl⟩).mono fun z hz => hx.1.trans hz
theorem settle5_i : ∀ (j : Nat) (i : Int) (c s1 : impl_Chain), i + j = 5 → 0 ≤ i → ChOk c → Shell s1 c →
    Tot (impl_ChainSettle_5 i s0 s1 t3 t4 t5 t6 t7 t8 t9 c.Base.Pairs c.Base.Known c.Conf.Members c.Nodes c.Up c.Bag c.Answers) (fun x => Step c x.1)
  | 0, i, c, s1, hj, h0, hc, hs => by
    rw [impl_ChainSettle_5_eq, cond_dec, if_neg (by omega)]
    exact settle9_i s0 t3 t4 t5 t6 t7 t8 t9 c.Bag.length c s1 rfl hc hs
  | j + 1, i, c, s1, hj, h0, hc, hs => by
    obtain ⟨b1, b2, b3, b4, b5⟩ := hs
    rw [impl_ChainSettle_5_eq, cond_dec, if_pos (by omega), b1, b2, b3, b4, b5, w64 (n := i + 1) (by omega) (by omega)]
    refine (tries_i c 10 i hc (by omega) (by omega)).bind fun x hx => ?_
    exact (settle5_i j (i + 1) x.2.1 (shc x.2.1) (by omega) (by omega) hx.1.ok ⟨rfl, rfl, rfl, rfl, rfl⟩).mono fun z hz => hx.1.trans hz
end
theorem chainSettle_i (c : impl_Chain) (hc : ChOk c) : Tot (impl_ChainSettle c) (fun x => Step c x.1) := by
  rw [impl_ChainSettle_eq, eta_Chain, impl_ChainValid_f c hc.inn, Option.bind_some, (chainOk_iff c).2 hc, Bool.not_true, cond_false, copyChain_i c hc, Option.bind_some]
  exact settle5_i _ _ _ _ _ _ _ _ 5 0 c _ (by omega) (by omega) hc ⟨rfl, rfl, rfl, rfl, rfl⟩
end Go.Proofs.YthkdkojfahaeaaaGreat.Ev
