/- Steps of a chain, as the program makes them: copies, configurations, replicas, bags. No condition. -/
import Derived.Test.YthkdkojfahaeaaaGreatPuSv
set_option linter.unusedVariables false
set_option linter.unusedSimpArgs false
namespace Go.Proofs.YthkdkojfahaeaaaGreat.Ev
open Go.Proofs.YthkdkojfahaeaaaGreat.Eng
open Go.RowKit (wrap64)
/-! ### Copies -/
theorem copyConfig_i (c : impl_Config) (h : c.Members.length ≤ 1000) : impl_copyConfig c = some (c, ()) := by
  rw [impl_copyConfig_eq, impl_copyOf_int_eq, ble_row (by omega) (by omega)]; rfl
theorem copyReplica_i (r : impl_Replica) (h : r.Conf.Members.length ≤ 1000) (h2 : r.Log.length ≤ 1000) : impl_copyReplica r = some (r, ()) := by
  rw [impl_copyReplica_eq, copyConfig_i _ h, Option.bind_some, impl_copyOf_Entry_eq, ble_row (by omega) (by omega)]; rfl
theorem copyMessage_i (m : impl_Message) (h : m.Conf.Members.length ≤ 1000) (h2 : m.Log.length ≤ 1000) : impl_copyMessage m = some (m, ()) := by
  rw [impl_copyMessage_eq, copyConfig_i _ h, Option.bind_some, impl_copyOf_Entry_eq, ble_row (by omega) (by omega)]; rfl
theorem copyBag_l (xs : List impl_Message) (hx : xs.length ≤ 10) (hm : ∀ m ∈ xs, messageOk m = true) : ∀ (ys : List impl_Message) (i : Int) (out : List impl_Message), 0 ≤ i → i ≤ xs.length → xs.drop i.toNat = ys → out.length ≤ i.toNat → impl_copyBag_3 xs (xs.length : Int) i out = some (out ++ ys, ())
  | [], i, out, h0, h1, hd, ho => by
    have := drop_nil h0 h1 hd
    rw [impl_copyBag_3_eq, cond_dec, if_neg (by omega), List.append_nil]
  | y :: ys, i, out, h0, h1, hd, ho => by
    obtain ⟨hr, hl, hd'⟩ := rd_drop (d := z_impl_Message) h0 hd
    have hy := messageOk_len (hm y (by rw [← hr]; exact rd_mem h0 hl))
    rw [impl_copyBag_3_eq]
    simp only [cond_dec, if_pos hl, if_pos h0, hr, eta_Message, w64 (n := i + 1) (by omega) (by omega), copyMessage_i y (by omega) (by omega), Option.bind_some]
    rw [ble_row (by simp; omega) (by omega), cond_true, copyBag_l xs hx hm ys (i + 1) _ (by omega) (by omega) hd' (by simp; omega)]
    simp
theorem copyBag_i (xs : List impl_Message) (h : bagOk xs = true) : impl_copyBag xs = some (xs, ()) := by
  simp only [bagOk, Bool.and_eq_true, decide_eq_true_eq, List.all_eq_true] at h
  rw [impl_copyBag_eq, copyBag_l xs h.1 h.2 xs 0 [] (by omega) (by omega) rfl (by simp)]; rfl
theorem copyChain_l (c : impl_Chain) (hc : ChOk c) (s1 : impl_Chain) (P : List impl_Pair) (K : List impl_Session) (M : List Int) (t6 : List impl_Pair) (t7 : List impl_Session) (t8 : List Int) (t9 : List impl_Replica) (t10 : List Bool) (t11 : List impl_Message) (t12 : List impl_Answer) :
    ∀ (ys : List impl_Replica) (i : Int) (s0 : impl_Chain) (out : List impl_Replica), 0 ≤ i → i ≤ c.Nodes.length → c.Nodes.drop i.toNat = ys → out.length ≤ i.toNat → s0.Up = c.Up → s0.Bag = c.Bag → s0.Answers = c.Answers →
    impl_copyChain_6' c.Nodes (c.Nodes.length : Int) i s0 s1 P K M out t6 t7 t8 t9 t10 t11 t12 = some (impl_Chain.mk (impl_State.mk s0.Base.Span P K s0.Base.Sealed s0.Base.Cut) (impl_Config.mk s0.Conf.Epoch M s0.Conf.Fresh) (out ++ ys) c.Up c.Bag c.Answers, ())
  | [], i, s0, out, h0, h1, hd, ho, e1, e2, e3 => by
    have := drop_nil h0 h1 hd
    have hu := hc.u5
    have ha := hc.ans.1
    rw [impl_copyChain_6'_eq, cond_dec, if_neg (by omega), List.append_nil, e1, e2, e3, impl_copyOf_bool_eq, ble_row (by omega) (by omega), cond_true, Option.bind_some, copyBag_i _ hc.bag.bag, Option.bind_some, impl_copyOf_Answer_eq, ble_row (by omega) (by omega), cond_true, Option.bind_some]
  | y :: ys, i, s0, out, h0, h1, hd, ho, e1, e2, e3 => by
    have h5 := hc.n5
    obtain ⟨hr, hl, hd'⟩ := rd_drop (d := z_impl_Replica) h0 hd
    have hy := replicaOk_len (hc.nodes y (by rw [← hr]; exact rd_mem h0 hl)).1
    rw [impl_copyChain_6'_eq]
    simp only [cond_dec, if_pos hl, if_pos h0, hr, eta_Replica, w64 (n := i + 1) (by omega) (by omega), copyReplica_i y (by omega) (by omega), Option.bind_some]
    rw [ble_row (by simp; omega) (by omega), cond_true, copyChain_l c hc s1 P K M t6 t7 t8 t9 t10 t11 t12 ys (i + 1) ⟨s0.Base, s0.Conf, [], s0.Up, s0.Bag, s0.Answers⟩ _ (by omega) (by omega) hd' (by simp; omega) e1 e2 e3]
    simp
theorem copyChain_i (c : impl_Chain) (h : ChOk c) : impl_copyChain c = some (c, ()) := by
  have hp := pairsOk_le ((stateOk_iff _).1 h.base).2.1
  have hk := sessOk_len ((stateOk_iff _).1 h.base).2.2.1
  have hm := ((configOk_iff _).1 h.conf).n1
  have h5 := h.n5
  rw [impl_copyChain_eq, impl_copyState_f c.Base (by omega) (by omega), Option.bind_some, copyConfig_i _ (by omega), Option.bind_some]
  obtain ⟨y, ys, hn⟩ : ∃ y ys, c.Nodes = y :: ys := by
    cases hn : c.Nodes with
    | nil => rw [hn] at h5; cases h5
    | cons y ys => exact ⟨y, ys, rfl⟩
  have hd : c.Nodes.drop (0 : Int).toNat = y :: ys := hn
  obtain ⟨hr, hl, hd'⟩ := rd_drop (d := z_impl_Replica) (Int.le_refl 0) hd
  have hy := replicaOk_len (h.nodes y (by rw [← hr]; exact rd_mem (Int.le_refl 0) hl)).1
  rw [impl_copyChain_6_eq]
  simp only [cond_dec, if_pos hl, if_pos (Int.le_refl 0), hr, eta_Replica, w64 (n := 0 + 1) (by omega) (by omega), copyReplica_i y (by omega) (by omega), Option.bind_some]
  rw [ble_row (by simp) (by omega), cond_true, copyChain_l c h _ _ _ _ _ _ _ _ _ _ _ ys (0 + 1) ⟨⟨c.Base.Span, [], [], c.Base.Sealed, c.Base.Cut⟩, ⟨c.Conf.Epoch, [], c.Conf.Fresh⟩, [], c.Up, c.Bag, c.Answers⟩ _ (by omega) (by omega) hd' (by simp) rfl rfl rfl]
  show some (impl_Chain.mk _ _ ([] ++ [y] ++ ys) c.Up c.Bag c.Answers, ()) = _
  rw [show [] ++ [y] ++ ys = c.Nodes by rw [hn]; rfl]
/-! ### Configurations -/
theorem indexI_l (xs : List Int) (n : Int) (hx : xs.length ≤ 1000) : ∀ (ys : List Int) (i : Int), 0 ≤ i → i ≤ xs.length → xs.drop i.toNat = ys → Tot (slices_Index_sint_int_2 xs n (xs.length : Int) i) (fun r => (r.1 = -1 ∧ n ∉ ys) ∨ (0 ≤ r.1 ∧ r.1 < xs.length))
  | [], i, h0, h1, hd => by
    have := drop_nil h0 h1 hd
    rw [slices_Index_sint_int_2_eq, cond_dec, if_neg (by omega)]; exact Tot.val (.inl ⟨rfl, by simp⟩)
  | y :: ys, i, h0, h1, hd => by
    obtain ⟨hr, hl, hd'⟩ := rd_drop (d := (0 : Int)) h0 hd
    rw [slices_Index_sint_int_2_eq]
    simp only [cond_dec, if_pos hl, if_pos h0, hr, w64 (n := i + 1) (by omega) (by omega)]
    by_cases e : n = y
    · rw [if_pos e]; exact Tot.val (.inr ⟨h0, hl⟩)
    · rw [if_neg e]
      refine (indexI_l xs n hx ys (i + 1) (by omega) (by omega) hd').mono fun r hr => hr.imp (fun h => ⟨h.1, fun hm => ?_⟩) id
      rcases List.mem_cons.1 hm with h1 | h1
      · exact e h1
      · exact h.2 h1
theorem indexI_t (xs : List Int) (n : Int) (hx : xs.length ≤ 1000) : Tot (slices_Index_sint_int xs n) (fun r => (r.1 = -1 ∧ n ∉ xs) ∨ (0 ≤ r.1 ∧ r.1 < xs.length)) := by
  rw [slices_Index_sint_int_eq]; exact indexI_l xs n hx xs 0 (by omega) (by omega) rfl
theorem replacedI_t (xs : List Int) (n : Int) (hx : xs.length ≤ 1000) (h0 : 0 ≤ n) (h1 : n < xs.length) : Tot (impl_replaced_int xs n 1 []) (fun x => x.1.length ≤ 3000) := by
  have a := cutList_len xs 0 n
  have b := cutList_len xs (n + 1) (xs.length : Int)
  rw [impl_replaced_int_eq, show (([] : List Int).length : Int) = 0 from rfl, w64 (n := (xs.length : Int) - 1) (by omega) (by omega), Int.add_zero, w64 (n := (xs.length : Int) - 1) (by omega) (by omega), w64 (n := n + 1) (by omega) (by omega), List.append_nil, List.length_nil]
  simp only [cond_dec]
  rw [if_pos (by omega), if_pos (by omega), if_pos h0, if_pos (by omega), ble_row (by omega) (by omega), cond_true, ble_row (by omega) (by omega), cond_true,
    if_pos (by omega), if_pos (by omega), ble_row (by omega) (by omega), cond_true]
  exact Tot.val (by simp; omega)
theorem withMember_i (c : impl_Config) (n : Int) (h : CfgOk c) (hn : 0 ≤ n ∧ n ≤ 4) : Tot (impl_WithMember c n) (fun x => CfgOk x.1.1 ∧ c.Epoch ≤ x.1.1.Epoch) := by
  have h0 := h.n0
  have h1 := h.n1
  have e0 := h.e0
  have e1 := h.e1
  have same : Tot (some ((c, (false, ())), ()) : Option ((impl_Config × Bool × Unit) × Unit)) (fun x => CfgOk x.1.1 ∧ c.Epoch ≤ x.1.1.Epoch) := Tot.val ⟨h, Int.le_refl _⟩
  rw [impl_WithMember_eq, impl_ConfigValid_f, Option.bind_some, (configOk_iff c).2 h, impl_nodeValid_f, Option.bind_some, decide_eq_true hn, copyConfig_i _ (by omega), slices_Contains_f _ _ (by omega)]
  simp only [cond_dec, Bool.not_true, cond_false, Option.bind_some]
  refine Tot.bif (fun _ => same) fun hf => Tot.ite (fun _ => same) fun hnot => Tot.ite (fun _ => same) fun h4 => Tot.ite (fun _ => same) fun h60 => ?_
  rw [ble_row (by simp; omega) (by omega), cond_true, w64 (by omega) (by omega)]
  refine Tot.val ⟨⟨by show 1 ≤ c.Epoch + 1; omega, by show c.Epoch + 1 ≤ 60; omega, by show 1 ≤ (c.Members ++ [n]).length; simp, by show (c.Members ++ [n]).length ≤ 4; simp; omega, fun _ => by show 2 ≤ (c.Members ++ [n]).length; simp; omega, ?_, fun x hx => ?_⟩, by show c.Epoch ≤ c.Epoch + 1; omega⟩
  · show (c.Members ++ [n]).Nodup
    rw [List.nodup_append]
    exact ⟨h.nodup, by simp, fun a ha b hb => by rw [List.mem_singleton.1 hb]; exact fun e => hnot (e ▸ ha)⟩
  · rcases List.mem_append.1 hx with hx | hx
    · exact h.nodes x hx
    · rw [List.mem_singleton.1 hx]; exact hn
theorem withoutMember_i (c : impl_Config) (n : Int) (h : CfgOk c) : Tot (impl_WithoutMember c n) (fun x => CfgOk x.1.1 ∧ c.Epoch ≤ x.1.1.Epoch) := by
  have h0 := h.n0
  have h1 := h.n1
  have e0 := h.e0
  have e1 := h.e1
  have same : Tot (some ((c, (false, ())), ()) : Option ((impl_Config × Bool × Unit) × Unit)) (fun x => CfgOk x.1.1 ∧ c.Epoch ≤ x.1.1.Epoch) := Tot.val ⟨h, Int.le_refl _⟩
  have chk : ∀ (M : List Int) (f : Bool), Tot (bif !configOk ⟨c.Epoch + 1, M, f⟩ then some ((c, (false, ())), ()) else some ((impl_Config.mk (c.Epoch + 1) M f, (true, ())), ()) : Option ((impl_Config × Bool × Unit) × Unit)) (fun x => CfgOk x.1.1 ∧ c.Epoch ≤ x.1.1.Epoch) := fun M f => by
    cases hk : configOk ⟨c.Epoch + 1, M, f⟩ with
    | false => exact same
    | true => exact Tot.val ⟨(configOk_iff _).1 hk, by show c.Epoch ≤ c.Epoch + 1; omega⟩
  rw [impl_WithoutMember_eq, impl_ConfigValid_f, Option.bind_some, (configOk_iff c).2 h, copyConfig_i _ (by omega)]
  simp only [cond_dec, Bool.not_true, cond_false, Option.bind_some]
  refine (indexI_t c.Members n (by omega)).bind fun r hr => Tot.ite (fun _ => same) fun hneg => Tot.ite (fun _ => same) fun h60 => ?_
  have hr : 0 ≤ r.1 ∧ r.1 < c.Members.length := by
    rcases hr with hr | hr
    · omega
    · exact hr
  refine (replacedI_t c.Members r.1 (by omega) hr.1 hr.2).bind fun q hq => ?_
  rw [w64 (n := c.Epoch + 1) (by omega) (by omega)]
  simp only [impl_ConfigValid_f, Option.bind_some]
  exact Tot.bif (fun _ => chk _ _) fun _ => chk _ _
theorem configDone_i (c : impl_Config) (h : CfgOk c) : Tot (impl_ConfigDone c) (fun x => CfgOk x.1 ∧ x.1.Epoch = c.Epoch) := by
  have h1 := h.n1
  rw [impl_ConfigDone_eq, impl_ConfigValid_f, Option.bind_some, (configOk_iff c).2 h, copyConfig_i _ (by omega)]
  exact Tot.val ⟨⟨h.e0, h.e1, h.n0, h.n1, (fun e => by cases e), h.nodup, h.nodes⟩, rfl⟩
theorem memberAfter_i (c : impl_Config) (n : Int) (h : CfgOk c) : Tot (impl_MemberAfter c n) (fun x => x.1 = -1 ∨ 0 ≤ x.1 ∧ x.1 ≤ 4) := by
  have h1 := h.n1
  rw [impl_MemberAfter_eq]
  simp only [cond_dec, impl_ConfigValid_f, Option.bind_some, (configOk_iff c).2 h, Bool.not_true, cond_false]
  refine (indexI_t c.Members n (by omega)).bind fun r hr => Tot.ite (fun _ => Tot.val (.inl rfl)) fun hneg => ?_
  rw [w64 (n := (c.Members.length : Int) - 1) (by omega) (by omega)]
  refine Tot.ite (fun _ => Tot.val (.inl rfl)) fun hl => ?_
  have hr : 0 ≤ r.1 ∧ r.1 < c.Members.length := by
    rcases hr with hr | hr
    · omega
    · exact hr
  rw [w64 (n := r.1 + 1) (by omega) (by omega), if_pos (by omega), if_pos (by omega)]
  exact Tot.val (.inr (h.nodes _ (rd_mem (by omega) (by omega))))
theorem tailOf_i (c : impl_Config) (h : CfgOk c) : Tot (impl_tailOf c) (fun _ => True) := by
  have h0 := h.n0
  have h1 := h.n1
  rw [impl_tailOf_eq, w64 (by omega) (by omega)]
  simp only [cond_dec]
  rw [if_pos (by omega), if_pos (by omega)]
  exact Tot.val trivial
/-! ### Replicas -/
theorem enterConfig_i (e : Int) (r : impl_Replica) (n : Int) (c : impl_Config) (hr : NodeOk e r) (hn : 0 ≤ n ∧ n ≤ 4) (hc : configOk c = true) (he : c.Epoch ≤ e) : Tot (impl_EnterConfig r n c) (fun x => NodeOk e x.1.1) := by
  have hl := replicaOk_len hr.1
  have hk := (configOk_iff c).1 hc
  have hc1 := hk.n1
  rw [impl_EnterConfig_eq, eta_Replica, impl_ReplicaValid_f r, Option.bind_some, hr.1, impl_nodeValid_f, Option.bind_some, decide_eq_true hn, impl_ConfigValid_f, Option.bind_some, hc, copyReplica_i r (by omega) (by omega), slices_Contains_f _ _ (by omega), copyConfig_i c (by omega)]
  simp only [cond_dec, Bool.not_true, cond_false, Option.bind_some, eta_Replica]
  have nw : Tot (some ((impl_Replica.mk c r.Ready r.Log, (true, ())), ()) : Option ((impl_Replica × Bool × Unit) × Unit)) (fun x => NodeOk e x.1.1) := by
    refine Tot.val ⟨?_, he⟩
    rcases (replicaOk_iff r).1 hr.1 with ⟨_, h1, h2⟩ | ⟨_, h1, h2, h3⟩
    · exact replicaOk_mk hc ((entriesOk_iff _).2 ⟨by omega, fun e h => by rw [List.eq_nil_of_length_eq_zero h2] at h; cases h⟩) (.inr h2)
    · exact replicaOk_mk hc h2 h3
  exact Tot.bif (fun _ => Tot.val hr) fun _ => Tot.ite (fun _ => Tot.val hr) fun _ => Tot.bif (fun _ => (tailOf_i c hk).bind fun q _ => Tot.ite (fun _ => Tot.val ⟨replicaOk_mk hc rfl (.inr rfl), he⟩) fun _ => nw) fun _ => nw
theorem submitEntry_i (e : Int) (r : impl_Replica) (n : Int) (x : impl_Entry) (hr : NodeOk e r) (hn : 0 ≤ n ∧ n ≤ 4) (hx : entryOk x = true) : Tot (impl_SubmitEntry r n x) (fun x => NodeOk e x.1.1) := by
  have hl := replicaOk_len hr.1
  rw [impl_SubmitEntry_eq, eta_Replica, impl_ReplicaValid_f r, Option.bind_some, hr.1, impl_nodeValid_f, Option.bind_some, decide_eq_true hn, impl_EntryValid_f, Option.bind_some, hx, copyReplica_i r (by omega) (by omega)]
  simp only [cond_dec, Bool.not_true, cond_false, Option.bind_some, eta_Replica]
  refine Tot.bif (fun _ => Tot.val hr) fun hrd => ?_
  have hrd : r.Ready = true := by cases h : r.Ready <;> simp [h] at hrd ⊢
  obtain ⟨hc, he⟩ := replicaOk_ready hr.1 hrd
  have hm := ((configOk_iff _).1 hc).n0
  rw [if_pos (by omega)]
  refine Tot.bif (fun _ => Tot.val hr) fun _ => Tot.ite (fun _ => Tot.val hr) fun h24 => Tot.ok (ble_row (by simp; omega) (by omega)) (Tot.val ⟨replicaOk_mk hc ((entriesOk_iff _).2 ⟨by simp; omega, fun y hy => ?_⟩) (.inl hrd), hr.2⟩)
  rcases List.mem_append.1 hy with hy | hy
  · exact ((entriesOk_iff _).1 he).2 y hy
  · rw [List.mem_singleton.1 hy]; exact hx
theorem takeCopy_i (e : Int) (r : impl_Replica) (n : Int) (l : List impl_Entry) (hr : NodeOk e r) (hn : 1 ≤ n ∧ n ≤ 60) (hl' : entriesOk l = true) : Tot (impl_TakeCopy r n l) (fun x => NodeOk e x.1.1) := by
  have hl := replicaOk_len hr.1
  have h24 := entriesOk_len hl'
  rw [impl_TakeCopy_eq, eta_Replica, impl_ReplicaValid_f r, Option.bind_some, hr.1, impl_entriesValid_f _, copyReplica_i r (by omega) (by omega), impl_copyOf_Entry_eq, ble_row (by omega) (by omega)]
  simp only [cond_dec, Bool.not_true, cond_false, cond_true, Option.bind_some, eta_Replica, hl']
  rw [if_neg (by omega), if_neg (by omega)]
  refine Tot.bif (fun _ => Tot.val hr) fun hep => ?_
  have hep : n = r.Conf.Epoch := by simpa using hep
  have nw : Tot (some ((impl_Replica.mk r.Conf true l, (true, ())), ()) : Option ((impl_Replica × Bool × Unit) × Unit)) (fun x => NodeOk e x.1.1) := by
    refine Tot.val ⟨?_, hr.2⟩
    rcases (replicaOk_iff r).1 hr.1 with ⟨h1, _⟩ | ⟨_, h1, _⟩
    · have := (noConf_len h1).2; omega
    · exact replicaOk_mk h1 hl' (.inl rfl)
  exact Tot.bif (fun _ => Tot.ite (fun _ => Tot.val hr) fun _ => nw) fun _ => nw
theorem copyTarget_i (r : impl_Replica) (n : Int) (hr : replicaOk r = true) : Tot (impl_CopyTarget r n) (fun x => x.1 = -1 ∨ (0 ≤ x.1 ∧ x.1 ≤ 4) ∧ r.Ready = true) := by
  have hl := replicaOk_len hr
  rw [impl_CopyTarget_eq, eta_Replica, impl_ReplicaValid_f r, Option.bind_some, hr]
  cases h : r.Ready with
  | false => exact Tot.val (.inl rfl)
  | true =>
    have hc := (replicaOk_ready hr h).1
    exact (memberAfter_i r.Conf n ((configOk_iff _).1 hc)).bind fun q hq => Tot.val (hq.imp id fun h => ⟨h, rfl⟩)
theorem isTail_i (r : impl_Replica) (n : Int) (hr : replicaOk r = true) : Tot (impl_IsTail r n) (fun x => x.1 = true → r.Ready = true) := by
  have hl := replicaOk_len hr
  rw [impl_IsTail_eq, eta_Replica, impl_ReplicaValid_f r, Option.bind_some, hr, cond_true]
  cases h : r.Ready with
  | false => exact Tot.val fun h => by cases h
  | true => exact (tailOf_i r.Conf ((configOk_iff _).1 (replicaOk_ready hr h).1)).bind fun q _ => Tot.val fun _ => rfl
/-! ### Bags -/
theorem bagAdd_i (e : Int) (l : List impl_Message) (m : impl_Message) (hl : BagOk e l) (hm : messageOk m = true) (he : m.Epoch ≤ e) : Tot (impl_BagAdd l m) (fun x => BagOk e x.1.1) := by
  have hb := hl.bag
  have h10 := hl.1
  have hml := messageOk_len hm
  rw [impl_BagAdd_eq, impl_BagValid_f l, Option.bind_some, hb, eta_Message, impl_MessageValid_f m, Option.bind_some, hm, copyBag_i l hb, copyMessage_i m (by omega) (by omega)]
  simp only [cond_dec, Bool.not_true, cond_false, Option.bind_some, eta_Message]
  refine Tot.ite (fun _ => Tot.val hl) fun h => Tot.ok (ble_row (by simp; omega) (by omega)) (Tot.val ⟨by show (l ++ [m]).length ≤ 10; simp; omega, fun y hy => ?_⟩)
  rcases List.mem_append.1 hy with hy | hy
  · exact hl.2 y hy
  · rw [List.mem_singleton.1 hy]; exact ⟨hm, he⟩
theorem replacedM_f (xs : List impl_Message) (n : Int) (hx : xs.length ≤ 10) (h0 : 0 ≤ n) (h1 : n < xs.length) : impl_replaced_Message xs n 1 [] = some (xs.take n.toNat ++ xs.drop (n.toNat + 1), ()) := by
  rw [impl_replaced_Message_eq, show (([] : List impl_Message).length : Int) = 0 from rfl, w64 (n := (xs.length : Int) - 1) (by omega) (by omega), Int.add_zero, w64 (n := (xs.length : Int) - 1) (by omega) (by omega), w64 (n := n + 1) (by omega) (by omega), List.append_nil, List.length_nil]
  simp only [cond_dec]
  rw [if_pos (by omega), if_pos (by omega), if_pos h0, if_pos (by omega), ble_row (by omega) (by omega), cond_true, ble_row (by simp; omega) (by omega), cond_true,
    if_pos (by omega), if_pos (by omega), Nat.ble_eq_true_of_le (by omega), cond_true, ble_row (by simp; omega) (by omega), cond_true, List.take_length, show (n + 1).toNat = n.toNat + 1 by omega]
theorem bagTake_i (e : Int) (l : List impl_Message) (n : Int) (hl : BagOk e l) : Tot (impl_BagTake l n) (fun x => BagOk e x.1.2.1 ∧ (x.1.2.2.1 = true → messageOk x.1.1 = true ∧ x.1.1.Epoch ≤ e) ∧ (0 ≤ n → n < l.length → x.1.2.2.1 = true ∧ x.1.2.1.length + 1 = l.length)) := by
  have hb := hl.bag
  have h10 := hl.1
  rw [impl_BagTake_eq, impl_BagValid_f l, Option.bind_some, hb, copyBag_i l hb]
  simp only [cond_dec, Bool.not_true, cond_false, Option.bind_some]
  refine Tot.ite (fun h => Tot.val ⟨hl, (fun h => by cases h), fun h0 => absurd h (by omega)⟩) fun h0 => Tot.ite (fun h => Tot.val ⟨hl, (fun h => by cases h), fun _ h1 => absurd h (by omega)⟩) fun h1 => ?_
  have hm := hl.2 (rdAt l n.toNat z_impl_Message) (rd_mem (by omega) (by omega))
  have hml := messageOk_len hm.1
  rw [if_pos (by omega), if_pos (by omega), eta_Message, copyMessage_i _ (by omega) (by omega), Option.bind_some, replacedM_f l n h10 (by omega) (by omega), Option.bind_some]
  refine Tot.val ⟨⟨by show (l.take n.toNat ++ l.drop (n.toNat + 1)).length ≤ 10; simp; omega, fun m hm => ?_⟩, fun _ => hm, fun _ _ => ⟨rfl, by show (l.take n.toNat ++ l.drop (n.toNat + 1)).length + 1 = l.length; simp; omega⟩⟩
  rcases List.mem_append.1 hm with hm | hm
  · exact hl.2 m (List.mem_of_mem_take hm)
  · exact hl.2 m (List.mem_of_mem_drop hm)
theorem bagRepeat_i (e : Int) (l : List impl_Message) (n : Int) (hl : BagOk e l) : Tot (impl_BagRepeat l n) (fun x => BagOk e x.1.1) := by
  have hb := hl.bag
  have h10 := hl.1
  rw [impl_BagRepeat_eq, impl_BagValid_f l, Option.bind_some, hb, copyBag_i l hb]
  simp only [cond_dec, Bool.not_true, cond_false, Option.bind_some]
  refine Tot.ite (fun _ => Tot.val hl) fun h0 => Tot.ite (fun _ => Tot.val hl) fun h1 => ?_
  have hm := hl.2 (rdAt l n.toNat z_impl_Message) (rd_mem (by omega) (by omega))
  rw [if_pos (by omega), if_pos (by omega), eta_Message]
  exact (bagAdd_i e l _ hl hm.1 hm.2).bind fun x hx => Tot.val hx
end Go.Proofs.YthkdkojfahaeaaaGreat.Ev
