/- Steps of a chain, as the specification makes them: they return, and the chain stays valid; what was answered stays. No condition. -/
import Derived.Test.YtlffjoabajdfnaaGreatPuSu
set_option linter.unusedVariables false
set_option linter.unusedSimpArgs false
namespace Go.Proofs.YtlffjoabajdfnaaGreat.Ev
open Go.Proofs.YtlffjoabajdfnaaGreat.Eng
open Go.RowKit (wrap64)
/-! ### Replies -/
theorem applyE_reply {s : impl_State} {e : impl_Entry} (hs : stateOk s = true) (he : entryOk e = true) : -4 ≤ (applyE s e).2 ∧ (applyE s e).2 ≤ 999 := by
  obtain ⟨h1, h2, h3, h4, h5⟩ := (stateOk_iff s).1 hs
  obtain ⟨e1, e2, e3⟩ := entryOk_says he
  unfold applyE
  rw [if_pos ⟨hs, he⟩]
  split
  · show -4 ≤ (sessOf s.Known e.Client).Reply ∧ (sessOf s.Known e.Client).Reply ≤ 999
    unfold sessOf
    split
    · rename_i hh
      have hlt := (of_decide_eq_true hh).1
      have := (sessItem_iff _).1 (((sessOk_iff _).1 h3).1 _ (rd_mem (d := z_impl_Session) (xs := s.Known) (i := (splace e.Client s.Known : Int)) (by omega) (by omega)))
      omega
    · dsimp only; omega
  · split
    · dsimp only; omega
    · split
      · dsimp only; omega
      · unfold applyE1
        split
        · dsimp only; omega
        · rename_i k5
          have := (applyC_did h2 e3 k5).reply
          dsimp only; omega
theorem runE_rep : ∀ (l : List impl_Entry) (s : impl_State) (out : List Int), stateOk s = true → (∀ e ∈ l, entryOk e = true) → (∀ x ∈ out, -4 ≤ x ∧ x ≤ 999) → (runE l s out).2.length = out.length + l.length ∧ ∀ x ∈ (runE l s out).2, -4 ≤ x ∧ x ≤ 999
  | [], s, out, hs, hl, ho => ⟨rfl, ho⟩
  | e :: l, s, out, hs, hl, ho => by
    have he := hl e List.mem_cons_self
    obtain ⟨a, b⟩ := runE_rep l (applyE s e).1 (out ++ [(applyE s e).2]) (applyE_did hs he).1 (fun x hx => hl x (List.mem_cons_of_mem _ hx)) fun x hx => by
      rcases List.mem_append.1 hx with hx | hx
      · exact ho x hx
      · rw [List.mem_singleton.1 hx]; exact applyE_reply hs he
    unfold runE
    exact ⟨by rw [a]; simp; omega, b⟩
theorem replayR_rep {s : impl_State} {l : List impl_Entry} (hs : stateOk s = true) (hl : entriesOk l = true) : (replayR s l).2.length = l.length ∧ ∀ x ∈ (replayR s l).2, -4 ≤ x ∧ x ≤ 999 := by
  unfold replayR
  rw [if_pos ⟨hs, hl⟩]
  obtain ⟨a, b⟩ := runE_rep l s [] hs ((entriesOk_iff l).1 hl).2 fun x h => by cases h
  exact ⟨by rw [a]; simp, b⟩
/-! ### Steps -/
structure Step (c c' : impl_Chain) : Prop where
  ok : ChOk c'
  base : c'.Base = c.Base
  ans : ∃ t, c'.Answers = c.Answers ++ t
theorem Step.refl {c : impl_Chain} (h : ChOk c) : Step c c := ⟨h, rfl, [], (List.append_nil _).symm⟩
theorem Step.trans {a b c : impl_Chain} (h : Step a b) (k : Step b c) : Step a c := by
  obtain ⟨t, ht⟩ := h.ans
  obtain ⟨u, hu⟩ := k.ans
  exact ⟨k.ok, k.base.trans h.base, t ++ u, by rw [hu, ht, List.append_assoc]⟩
structure StepU (c c' : impl_Chain) : Prop where
  st : Step c c'
  up : c'.Up = c.Up
theorem StepU.refl {c : impl_Chain} (h : ChOk c) : StepU c c := ⟨Step.refl h, rfl⟩
theorem StepU.trans {a b c : impl_Chain} (h : StepU a b) (k : StepU b c) : StepU a c := ⟨h.st.trans k.st, k.up.trans h.up⟩
theorem ChOk.setBag {c : impl_Chain} (h : ChOk c) {b : List impl_Message} (hb : BagOk c.Conf.Epoch b) : StepU c ⟨c.Base, c.Conf, c.Nodes, c.Up, b, c.Answers⟩ :=
  ⟨⟨⟨h.base, h.conf, h.n5, h.u5, h.nodes, hb, h.ans⟩, rfl, [], (List.append_nil _).symm⟩, rfl⟩
theorem ChOk.setConf {c : impl_Chain} (h : ChOk c) {k : impl_Config} (hk : CfgOk k) (he : c.Conf.Epoch ≤ k.Epoch) : StepU c ⟨c.Base, k, c.Nodes, c.Up, c.Bag, c.Answers⟩ :=
  ⟨⟨⟨h.base, (configOk_iff k).2 hk, h.n5, h.u5, fun r hr => ⟨(h.nodes r hr).1, Int.le_trans (h.nodes r hr).2 he⟩, ⟨h.bag.1, fun m hm => ⟨(h.bag.2 m hm).1, Int.le_trans (h.bag.2 m hm).2 he⟩⟩, h.ans⟩, rfl, [], (List.append_nil _).symm⟩, rfl⟩
theorem ChOk.setUp {c : impl_Chain} (h : ChOk c) (i : Nat) (b : Bool) : Step c ⟨c.Base, c.Conf, c.Nodes, List.set c.Up i b, c.Bag, c.Answers⟩ :=
  ⟨⟨h.base, h.conf, h.n5, by show (List.set c.Up i b).length = 5; rw [List.length_set]; exact h.u5, h.nodes, h.bag, h.ans⟩, rfl, [], (List.append_nil _).symm⟩
theorem mem_set {α : Type} {l : List α} {i : Nat} {y x : α} (h : x ∈ List.set l i y) : x = y ∨ x ∈ l := by
  rcases List.mem_or_eq_of_mem_set h with h | h
  · exact .inr h
  · exact .inl h
theorem ChOk.setNode {c : impl_Chain} (h : ChOk c) (i : Nat) {r : impl_Replica} (hr : NodeOk c.Conf.Epoch r) : StepU c ⟨c.Base, c.Conf, List.set c.Nodes i r, c.Up, c.Bag, c.Answers⟩ :=
  ⟨⟨⟨h.base, h.conf, by show (List.set c.Nodes i r).length = 5; rw [List.length_set]; exact h.n5, h.u5, fun x hx => by
    rcases mem_set hx with hx | hx
    · rw [hx]; exact hr
    · exact h.nodes x hx, h.bag, h.ans⟩, rfl, [], (List.append_nil _).symm⟩, rfl⟩
theorem messageOk_kinds {m : impl_Message} (h : messageOk m = true) : (1 ≤ m.Epoch ∧ m.Epoch ≤ 60) ∧ ((m.Kind = 1 ∧ (0 ≤ m.To ∧ m.To ≤ 4) ∧ configOk m.Conf = true ∧ m.Conf.Epoch = m.Epoch) ∨ (m.Kind = 2 ∧ (0 ≤ m.To ∧ m.To ≤ 4) ∧ entriesOk m.Log = true) ∨ m.Kind = 3) := by
  unfold messageOk at h
  rw [Bool.and_eq_true] at h
  refine ⟨of_decide_eq_true h.1, ?_⟩
  have h := h.2
  split at h
  · rename_i k
    simp only [Bool.and_eq_true, decide_eq_true_eq] at h
    exact .inl ⟨k, h.1.1.1, h.1.1.2, h.1.2⟩
  · split at h
    · rename_i k
      simp only [Bool.and_eq_true, decide_eq_true_eq] at h
      exact .inr (.inl ⟨k, h.1.1, h.2⟩)
    · split at h
      · rename_i k; exact .inr (.inr k)
      · cases h
theorem stepBag_t (c : impl_Chain) (e : impl_Event) (h : ChOk c) : Tot (spec_l20stepBag c e) (fun x => StepU c x.1.1) := by
  have hn5 := h.n5
  have hu5 := h.u5
  rw [spec_l20stepBag_eq]
  simp only [cond_dec]
  refine Tot.ite (fun _ => (bagRepeat_t _ _ _ h.bag).bind fun x hx => Tot.val (h.setBag hx)) fun _ => (bagTake_t c.Conf.Epoch _ _ h.bag).bind fun x hx => ?_
  have sb := h.setBag hx.1
  refine Tot.bif (fun _ => Tot.val sb) fun hok => Tot.ite (fun _ => Tot.val sb) fun _ => ?_
  have hok : x.1.2.2.1 = true := by cases q : x.1.2.2.1 <;> simp [q] at hok ⊢
  obtain ⟨hm, hme⟩ := hx.2 hok
  obtain ⟨hep, hk⟩ := messageOk_kinds hm
  refine Tot.ite (fun _ => Tot.ite (fun _ => (configDone_t c.Conf ((configOk_iff _).1 h.conf)).bind fun k hk => Tot.val (sb.trans (sb.st.ok.setConf hk.1 (by show c.Conf.Epoch ≤ _; omega)))) fun _ => Tot.val sb) fun k3 => ?_
  have hto : 0 ≤ x.1.1.To ∧ x.1.1.To ≤ 4 := by
    rcases hk with hk | hk | hk
    · exact hk.2.1
    · exact hk.2.1
    · exact absurd hk k3
  rw [if_pos hto.1, if_pos (by omega)]
  refine Tot.bif (fun _ => Tot.val sb) fun _ => ?_
  have hnd := h.nodes (rdAt c.Nodes (Int.toNat x.1.1.To) z_impl_Replica) (rd_mem hto.1 (by omega))
  have hN : x.1.1.To < (c.Nodes.length : Int) := by omega
  simp only [if_pos hto.1, if_pos hN, eta_Replica]
  refine Tot.ite (fun k1 => ?_) fun k1 => ?_
  · have hc : configOk x.1.1.Conf = true ∧ x.1.1.Conf.Epoch = x.1.1.Epoch := by
      rcases hk with hk | hk | hk
      · exact hk.2.2
      · omega
      · exact absurd hk k3
    exact (enterConfig_t c.Conf.Epoch _ x.1.1.To x.1.1.Conf hnd hto hc.1 (by omega)).bind fun y hy => Tot.val (sb.trans (sb.st.ok.setNode _ hy))
  · have hc : entriesOk x.1.1.Log = true := by
      rcases hk with hk | hk | hk
      · exact absurd hk.1 k1
      · exact hk.2.2
      · exact absurd hk k3
    exact (takeCopy_t c.Conf.Epoch _ x.1.1.Epoch x.1.1.Log hnd hep hc).bind fun y hy => Tot.val (sb.trans (sb.st.ok.setNode _ hy))
def upE (e : impl_Event) (U : List Bool) : List Bool := if e.Kind = 9 ∨ e.Kind = 10 then List.set U e.Node.toNat (decide (e.Kind = 10)) else U
structure StepE (e : impl_Event) (c c' : impl_Chain) : Prop where
  st : Step c c'
  up : c'.Up = upE e c.Up
theorem StepU.e {e : impl_Event} {c c' : impl_Chain} (h : StepU c c') (hk : e.Kind ≠ 9 ∧ e.Kind ≠ 10) : StepE e c c' := ⟨h.st, by unfold upE; rw [if_neg (by omega)]; exact h.up⟩
theorem stepMaster_t (c : impl_Chain) (e : impl_Event) (h : ChOk c) (hn : 0 ≤ e.Node ∧ e.Node ≤ 4) (hk : e.Kind = 6 ∨ e.Kind = 9 ∨ e.Kind = 10 ∨ e.Kind = 11 ∨ e.Kind = 12) : Tot (spec_l20stepMaster c e) (fun x => StepE e c x.1.1) := by
  have hu5 := h.u5
  have hc := (configOk_iff _).1 h.conf
  have hm4 := hc.n1
  have same := StepU.refl h
  rw [spec_l20stepMaster_eq]
  simp only [cond_dec]
  refine Tot.ite (fun k6 => (l16Index_t c.Conf e.Node (by omega)).bind fun q hq => Tot.ite (fun _ => Tot.val (same.e (by omega))) fun _ => ?_) fun k6 => Tot.ite (fun k11 => ?_) fun k11 => Tot.ite (fun k12 => ?_) fun k12 => ?_
  · refine (bagAdd_t c.Conf.Epoch c.Bag _ h.bag ?_ (Int.le_refl _)).bind fun x hx => Tot.val ((h.setBag hx).e (by omega))
    have e0 := hc.e0
    have e1 := hc.e1
    simp [messageOk, e0, e1, hn.1, hn.2, h.conf]
  · exact (withoutMember_t c.Conf e.Node hc).bind fun x hx => Tot.val ((h.setConf hx.1 hx.2).e (by omega))
  · exact (withMember_t c.Conf e.Node hc hn).bind fun x hx => Tot.val ((h.setConf hx.1 hx.2).e (by omega))
  · have hU : e.Node < (c.Up.length : Int) := by omega
    simp only [if_pos hn.1, if_pos hU]
    exact Tot.val ⟨h.setUp _ _, by unfold upE; rw [if_pos (by omega)]⟩
theorem step24_t (c : impl_Chain) (h : ChOk c) (r : impl_Replica) (q : List Int) (hr : entriesOk r.Log = true) (hq : q.length = r.Log.length) (hq2 : ∀ x ∈ q, -4 ≤ x ∧ x ≤ 999) (z : impl_Chain) (t11 : List impl_Pair) (t12 : List impl_Session) (t13 : List Int) (t14 : List impl_Replica) (t15 : List Bool) (t16 : List impl_Message) (t17 : List impl_Answer) :
    ∀ (j : Nat) (i : Int) (s0 : impl_Chain) (A : List impl_Answer), i + j = r.Log.length → 0 ≤ i → A.length ≤ i.toNat → (∀ a ∈ A, answerOk a = true) → (∃ t, A = c.Answers ++ t) → s0.Base.Span = c.Base.Span → s0.Base.Sealed = c.Base.Sealed → s0.Base.Cut = c.Base.Cut → s0.Conf.Epoch = c.Conf.Epoch → s0.Conf.Fresh = c.Conf.Fresh →
    Tot (spec_l20stepNode_24 i s0 z r q c.Base.Pairs c.Base.Known c.Conf.Members c.Nodes c.Up c.Bag A t11 t12 t13 t14 t15 t16 t17) (fun x => StepU c x.1.1)
  | 0, i, s0, A, hj, h0, hl, ha, hp, b1, b2, b3, b4, b5 => by
    have h24 := entriesOk_len hr
    rw [spec_l20stepNode_24_eq, cond_dec, if_neg (by omega), b1, b2, b3, b4, b5]
    exact Tot.val ⟨⟨⟨h.base, h.conf, h.n5, h.u5, h.nodes, h.bag, ⟨by show A.length ≤ 24; omega, ha⟩⟩, rfl, hp⟩, rfl⟩
  | j + 1, i, s0, A, hj, h0, hl, ha, hp, b1, b2, b3, b4, b5 => by
    have h24 := entriesOk_len hr
    have hi : i < (r.Log.length : Int) := by omega
    rw [spec_l20stepNode_24_eq]
    have hiq : i < (q.length : Int) := by omega
    simp only [cond_dec, if_pos hi, if_pos h0, if_pos hiq]
    rw [ble_row (by simp; omega) (by omega), cond_true, w64 (n := i + 1) (by omega) (by omega)]
    refine step24_t c h r q hr hq hq2 z t11 t12 t13 t14 t15 t16 t17 j (i + 1) _ _ (by omega) (by omega) (by simp; omega) (fun a hm => ?_) ?_ b1 b2 b3 b4 b5
    · rcases List.mem_append.1 hm with hm | hm
      · exact ha a hm
      · rw [List.mem_singleton.1 hm]
        have h1 := ((entriesOk_iff _).1 hr).2 _ (rd_mem (d := z_impl_Entry) h0 hi)
        have h2 := hq2 _ (rd_mem (d := (0 : Int)) (xs := q) h0 (by omega))
        simp only [answerOk, Bool.and_eq_true, decide_eq_true_eq]
        exact ⟨h1, h2⟩
    · obtain ⟨t, ht⟩ := hp
      exact ⟨t ++ [_], by rw [ht, List.append_assoc]⟩
theorem stepNode_t (c : impl_Chain) (e : impl_Event) (h : ChOk c) (hn : 0 ≤ e.Node ∧ e.Node ≤ 4) (hs : e.Kind = 1 → entryOk e.Sent = true) : Tot (spec_l20stepNode c e) (fun x => StepU c x.1.1) := by
  have hn5 := h.n5
  have same := StepU.refl h
  have hnd := h.nodes (rdAt c.Nodes (Int.toNat e.Node) z_impl_Replica) (rd_mem hn.1 (by omega))
  have hlen := replicaOk_len hnd.1
  rw [spec_l20stepNode_eq]
  have hN : e.Node < (c.Nodes.length : Int) := by omega
  simp only [cond_dec, eta_Replica, if_pos hn.1, if_pos hN]
  refine Tot.ite (fun k1 => ?_) fun _ => Tot.ite (fun _ => ?_) fun _ => Tot.ite (fun _ => ?_) fun _ => ?_
  · exact (submitEntry_t c.Conf.Epoch _ e.Node e.Sent hnd hn (hs k1)).bind fun y hy => Tot.val (h.setNode _ hy)
  · refine (copyTarget_t _ e.Node hnd.1).bind fun q hq => Tot.ite (fun _ => Tot.val same) fun hneg => ?_
    have hq := hq.resolve_left (by omega)
    obtain ⟨hc, hl⟩ := replicaOk_ready hnd.1 hq.2
    have hc := (configOk_iff _).1 hc
    refine (bagAdd_t c.Conf.Epoch c.Bag _ h.bag ?_ hnd.2).bind fun x hx => Tot.val (h.setBag hx)
    have e0 := hc.e0
    have e1 := hc.e1
    simp [messageOk, e0, e1, hq.1.1, hq.1.2, hl, noConf]
  · refine (isTail_t _ e.Node hnd.1).bind fun q hq => Tot.bif (fun _ => Tot.val same) fun ht => Tot.bif (fun _ => Tot.val same) fun _ => ?_
    have ht : q.1 = true := by cases w : q.1 <;> simp [w] at ht ⊢
    obtain ⟨hc, hl⟩ := replicaOk_ready hnd.1 (hq ht)
    have hc := (configOk_iff _).1 hc
    refine (bagAdd_t c.Conf.Epoch c.Bag _ h.bag ?_ hnd.2).bind fun x hx => Tot.val (h.setBag hx)
    have e0 := hc.e0
    have e1 := hc.e1
    simp [messageOk, e0, e1, noConf]
  · refine (isTail_t _ e.Node hnd.1).bind fun q hq => Tot.bif (fun _ => Tot.val same) fun ht => Tot.ite (fun _ => Tot.val same) fun hle => ?_
    have ht : q.1 = true := by cases w : q.1 <;> simp [w] at ht ⊢
    obtain ⟨hc, hl⟩ := replicaOk_ready hnd.1 (hq ht)
    obtain ⟨r1, r2⟩ := replayR_rep h.base hl
    have hk := sessOk_len ((stateOk_iff _).1 h.base).2.2.1
    rw [spec_Replay_f _ _ (by omega) (by omega), Option.bind_some]
    exact step24_t c h (rdAt c.Nodes (Int.toNat e.Node) z_impl_Replica) _ hl r1 r2 _ _ _ _ _ _ _ _ ((rdAt c.Nodes (Int.toNat e.Node) z_impl_Replica).Log.length - c.Answers.length) (c.Answers.length : Int) _ c.Answers (by omega) (by omega) (by omega) h.ans.2 ⟨[], (List.append_nil _).symm⟩ rfl rfl rfl rfl rfl
structure EvOk (e : impl_Event) : Prop where
  kind : 1 ≤ e.Kind ∧ e.Kind ≤ 12
  node : 0 ≤ e.Node ∧ e.Node ≤ 4
  place : 0 ≤ e.Place ∧ e.Place ≤ 9
  sent : (e.Kind = 1 ∧ entryOk e.Sent = true) ∨ (e.Kind ≠ 1 ∧ e.Sent = ⟨0, 0, ⟨0, es, 0, 0⟩⟩)
theorem eventValid_t {e : impl_Event} (h : EvOk e) : spec_EventValid e = some (true, ()) := by
  rw [spec_EventValid_eq, spec_l1In_f, Option.bind_some, spec_l1In_f, spec_l1In_f, decide_eq_true h.kind, decide_eq_true h.node, decide_eq_true h.place]
  simp only [Bool.not_true, cond_false, Option.bind_some, cond_dec]
  rcases h.sent with ⟨h1, h2⟩ | ⟨h1, h2⟩
  · rw [if_pos h1, spec_EntryValid_f, h2]; rfl
  · rw [if_neg h1, h2]; simp [sEq_dec, eqI_dec]
theorem chainStep_e (c : impl_Chain) (e : impl_Event) (h : ChOk c) (he : EvOk e) : Tot (spec_ChainStep c e) (fun x => StepE e c x.1.1) := by
  have hu5 := h.u5
  have hn := he.node
  have bg := (stepBag_t c e h)
  have ms : (e.Kind = 6 ∨ e.Kind = 9 ∨ e.Kind = 10 ∨ e.Kind = 11 ∨ e.Kind = 12) → ∀ {s1 : impl_Chain} {t3 : List impl_Pair} {t4 : List impl_Session} {t5 : List Int} {t6 : List impl_Replica} {t7 : List Bool} {t8 : List impl_Message} {t9 : List impl_Answer} {t10 : List impl_Pair} {t11 : List impl_Session} {t12 : List Int} {t13 : List impl_Replica} {t14 : List Bool} {t15 : List impl_Message} {t16 : List impl_Answer},
      Tot (spec_ChainStep_14 e s1 (impl_Chain.mk (impl_State.mk c.Base.Span t10 t11 c.Base.Sealed c.Base.Cut) (impl_Config.mk c.Conf.Epoch t12 c.Conf.Fresh) t13 t14 t15 t16) t3 t4 t5 t6 t7 t8 t9 c.Base.Pairs c.Base.Known c.Conf.Members c.Nodes c.Up c.Bag c.Answers) (fun x => StepE e c x.1.1) := by
    intro hk
    intros
    rw [spec_ChainStep_14_eq]
    exact (stepMaster_t c e h hn hk).bind fun x hx => Tot.val hx
  rw [spec_ChainStep_eq, eta_Chain, spec_ChainValid_f c h.inn, Option.bind_some, (chainOk_iff c).2 h, eventValid_t he, l19Copy_f c h]
  simp only [cond_dec, Bool.not_true, cond_false, Option.bind_some, eta_Chain]
  have bg' : (e.Kind ≠ 9 ∧ e.Kind ≠ 10) → Tot ((spec_l20stepBag c e).bind fun r4 => some ((r4.1.1, (r4.1.2.1, ())), ())) (fun x => StepE e c x.1.1) := fun hk => bg.bind fun x hx => Tot.val (hx.e hk)
  refine Tot.ite (fun k => bg' (by omega)) fun _ => Tot.ite (fun k => bg' (by omega)) fun _ => Tot.ite (fun k => bg' (by omega)) fun _ => ?_
  refine Tot.ite (fun k => ms (by omega)) fun _ => Tot.ite (fun k => ms (by omega)) fun k9 => Tot.ite (fun k => ms (by omega)) fun k10 => Tot.ite (fun k => ms (by omega)) fun _ => Tot.ite (fun k => ms (by omega)) fun _ => ?_
  rw [if_pos hn.1, if_pos (by omega)]
  refine Tot.bif (fun _ => Tot.val ((StepU.refl h).e (by omega))) fun _ => ?_
  refine (stepNode_t c e h hn fun k1 => ?_).bind fun x hx => Tot.val (hx.e (by omega))
  rcases he.sent with ⟨_, h2⟩ | ⟨h1, _⟩
  · exact h2
  · exact absurd k1 h1
end Go.Proofs.YtlffjoabajdfnaaGreat.Ev
