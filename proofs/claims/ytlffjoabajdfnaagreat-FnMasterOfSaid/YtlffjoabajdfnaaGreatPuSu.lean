/- Steps of a chain, as the specification makes them: configurations, replicas, bags. No condition. -/
import Derived.Test.YtlffjoabajdfnaaGreatPuSt
set_option linter.unusedVariables false
set_option linter.unusedSimpArgs false
namespace Go.Proofs.YtlffjoabajdfnaaGreat.Ev
open Go.Proofs.YtlffjoabajdfnaaGreat.Eng
open Go.RowKit (wrap64)
/-! ### Configurations -/
theorem l16Index_l (c : impl_Config) (n : Int) (hx : c.Members.length ≤ 1000) : ∀ (ys : List Int) (i : Int), 0 ≤ i → i ≤ c.Members.length → c.Members.drop i.toNat = ys → Tot (spec_l16Index_2 n i c) (fun r => (r.1 = -1 ∧ n ∉ ys) ∨ (0 ≤ r.1 ∧ r.1 < c.Members.length ∧ rdAt c.Members r.1.toNat 0 = n))
  | [], i, h0, h1, hd => by
    have := drop_nil h0 h1 hd
    rw [spec_l16Index_2_eq, cond_dec, if_neg (by omega)]; exact Tot.val (.inl ⟨rfl, by simp⟩)
  | y :: ys, i, h0, h1, hd => by
    obtain ⟨hr, hl, hd'⟩ := rd_drop (d := (0 : Int)) h0 hd
    rw [spec_l16Index_2_eq]
    simp only [cond_dec, if_pos hl, if_pos h0, hr, w64 (n := i + 1) (by omega) (by omega)]
    by_cases e : y = n
    · rw [if_pos e]; exact Tot.val (.inr ⟨h0, hl, hr.trans e⟩)
    · rw [if_neg e]
      refine (l16Index_l c n hx ys (i + 1) (by omega) (by omega) hd').mono fun r hr => hr.imp (fun h => ⟨h.1, fun hm => ?_⟩) id
      rcases List.mem_cons.1 hm with h1 | h1
      · exact e h1.symm
      · exact h.2 h1
theorem l16Index_t (c : impl_Config) (n : Int) (hx : c.Members.length ≤ 1000) : Tot (spec_l16Index c n) (fun r => (r.1 = -1 ∧ n ∉ c.Members) ∨ (0 ≤ r.1 ∧ r.1 < c.Members.length ∧ rdAt c.Members r.1.toNat 0 = n)) := by
  rw [spec_l16Index_eq]; exact l16Index_l c n hx c.Members 0 (by omega) (by omega) rfl
theorem completeMembers_t (c : impl_Config) (h : CfgOk c) : Tot (spec_CompleteMembers c) (fun x => x.1.length = if c.Fresh = true then c.Members.length - 1 else c.Members.length) := by
  have := h.n0
  have := h.n1
  rw [spec_CompleteMembers_eq, spec_ConfigValid_f, Option.bind_some, (configOk_iff c).2 h, Bool.not_true, cond_false, ble_row (by simp; omega) (by omega), cond_true]
  cases c.Fresh with
  | false => exact Tot.val (by simp)
  | true =>
    rw [cond_true, w64 (by omega) (by omega)]
    simp only [cond_dec]
    rw [if_pos (by omega), if_pos (by omega), ble_row (by have := cutList_len c.Members 0 ((c.Members.length : Int) - 1); simp; omega) (by omega)]
    refine Tot.val ?_
    show (cutList c.Members 0 ((c.Members.length : Int) - 1)).length = _
    simp only [if_true]
    unfold cutList
    simp
theorem withMember_t (c : impl_Config) (n : Int) (h : CfgOk c) (hn : 0 ≤ n ∧ n ≤ 4) : Tot (spec_WithMember c n) (fun x => CfgOk x.1.1 ∧ c.Epoch ≤ x.1.1.Epoch) := by
  have h0 := h.n0
  have h1 := h.n1
  have e0 := h.e0
  have e1 := h.e1
  have same : ∀ b : Bool, Tot (some ((c, (b, ())), ()) : Option ((impl_Config × Bool × Unit) × Unit)) (fun x => CfgOk x.1.1 ∧ c.Epoch ≤ x.1.1.Epoch) := fun b => Tot.val ⟨h, Int.le_refl _⟩
  rw [spec_WithMember_eq, spec_ConfigValid_f, Option.bind_some, (configOk_iff c).2 h, spec_l1In_f, Option.bind_some, decide_eq_true hn, l16Copy_f _ (by omega)]
  simp only [cond_dec, Bool.not_true, cond_false, Option.bind_some]
  refine Tot.bif (fun _ => same _) fun hf => (l16Index_t c n (by omega)).bind fun r hr => Tot.ite (fun _ => same _) fun hneg => Tot.ite (fun _ => same _) fun h4 => Tot.ite (fun _ => same _) fun h60 => ?_
  rw [ble_row (by simp; omega) (by omega), cond_true, w64 (by omega) (by omega)]
  have hnot : n ∉ c.Members := by
    rcases hr with hr | hr
    · exact hr.2
    · omega
  refine Tot.val ⟨⟨by show 1 ≤ c.Epoch + 1; omega, by show c.Epoch + 1 ≤ 60; omega, by show 1 ≤ (c.Members ++ [n]).length; simp, by show (c.Members ++ [n]).length ≤ 4; simp; omega, fun _ => by show 2 ≤ (c.Members ++ [n]).length; simp; omega, ?_, fun x hx => ?_⟩, by show c.Epoch ≤ c.Epoch + 1; omega⟩
  · show (c.Members ++ [n]).Nodup
    rw [List.nodup_append]
    exact ⟨h.nodup, by simp, fun a ha b hb => by rw [List.mem_singleton.1 hb]; exact fun e => hnot (e ▸ ha)⟩
  · rcases List.mem_append.1 hx with hx | hx
    · exact h.nodes x hx
    · rw [List.mem_singleton.1 hx]; exact hn
theorem withoutMember_t (c : impl_Config) (n : Int) (h : CfgOk c) : Tot (spec_WithoutMember c n) (fun x => CfgOk x.1.1 ∧ c.Epoch ≤ x.1.1.Epoch) := by
  have h0 := h.n0
  have h1 := h.n1
  have e0 := h.e0
  have e1 := h.e1
  have same : Tot (some ((c, (false, ())), ()) : Option ((impl_Config × Bool × Unit) × Unit)) (fun x => CfgOk x.1.1 ∧ c.Epoch ≤ x.1.1.Epoch) := Tot.val ⟨h, Int.le_refl _⟩
  rw [spec_WithoutMember_eq, spec_ConfigValid_f, Option.bind_some, (configOk_iff c).2 h, l16Copy_f _ (by omega)]
  simp only [cond_dec, Bool.not_true, cond_false, Option.bind_some]
  refine (l16Index_t c n (by omega)).bind fun r hr => (completeMembers_t c h).bind fun q hq => Tot.ite (fun _ => same) fun hneg => Tot.ite (fun _ => same) fun h60 => ?_
  have hr : 0 ≤ r.1 ∧ r.1 < c.Members.length := by
    rcases hr with hr | hr
    · omega
    · exact ⟨hr.1, hr.2.1⟩
  have cut : ∀ {z : impl_Config} {fr : Bool} {x y : List Int}, (fr = true → 3 ≤ c.Members.length) → 2 ≤ c.Members.length → Tot (spec_WithoutMember_9 r.1 c z (impl_Config.mk (c.Epoch + 1) x fr) y []) (fun x => CfgOk x.1.1 ∧ c.Epoch ≤ x.1.1.Epoch) := by
    intro z fr x y hf h2
    have c1 : cutList c.Members 0 r.1 = c.Members.take r.1.toNat := cut_pre _ _ hr.1
    have c2 : cutList c.Members (r.1 + 1) (c.Members.length : Int) = c.Members.drop (r.1 + 1).toNat := by unfold cutList; simp
    rw [spec_WithoutMember_9_eq, w64 (n := r.1 + 1) (by omega) (by omega), c1, c2]
    simp only [cond_dec]
    rw [if_pos hr.1, if_pos (by omega), ble_row (by simp; omega) (by omega), cond_true, if_pos (by omega), if_pos (by omega), ble_row (by simp; omega) (by omega), cond_true, List.nil_append]
    have hs : (c.Members.take r.1.toNat ++ c.Members.drop (r.1 + 1).toNat).Sublist c.Members := by
      have h := List.drop_sublist 1 (c.Members.drop r.1.toNat)
      rw [List.drop_drop, show r.1.toNat + 1 = (r.1 + 1).toNat by omega] at h
      have h2 := (List.Sublist.refl (c.Members.take r.1.toNat)).append h
      rwa [List.take_append_drop] at h2
    have hlen : (c.Members.take r.1.toNat ++ c.Members.drop (r.1 + 1).toNat).length = c.Members.length - 1 := by simp; omega
    exact Tot.val ⟨⟨by show 1 ≤ c.Epoch + 1; omega, by show c.Epoch + 1 ≤ 60; omega, by rw [hlen]; omega, by rw [hlen]; omega, fun h => by have := hf h; rw [hlen]; omega, hs.nodup h.nodup, fun x hx => h.nodes x (hs.subset hx)⟩, by show c.Epoch ≤ c.Epoch + 1; omega⟩
  rw [w64 (n := c.Epoch + 1) (by omega) (by omega), w64 (n := (c.Members.length : Int) - 1) (by omega) (by omega)]
  cases hf : c.Fresh with
  | false =>
    rw [hf] at hq
    simp only [Bool.false_eq_true, if_false] at hq
    simp only [Bool.not_false, cond_true, cond_false]
    exact Tot.ite (fun _ => same) fun h1 => cut (fun h => by cases h) (by omega)
  | true =>
    have h2 := h.fresh hf
    rw [hf] at hq
    simp only [if_true] at hq
    simp only [Bool.not_true, cond_true, cond_false]
    refine Tot.ite (fun e1 => ?_) fun e1 => cut (fun h => by omega) (by omega)
    by_cases hl : r.1 = (c.Members.length : Int) - 1
    · rw [decide_eq_true hl]; exact cut (fun h => by cases h) (by omega)
    · rw [decide_eq_false hl]; exact same
theorem configDone_t (c : impl_Config) (h : CfgOk c) : Tot (spec_ConfigDone c) (fun x => CfgOk x.1 ∧ x.1.Epoch = c.Epoch) := by
  have h1 := h.n1
  rw [spec_ConfigDone_eq, spec_ConfigValid_f, Option.bind_some, (configOk_iff c).2 h, l16Copy_f _ (by omega)]
  exact Tot.val ⟨⟨h.e0, h.e1, h.n0, h.n1, (fun e => by cases e), h.nodup, h.nodes⟩, rfl⟩
theorem memberAfter_t (c : impl_Config) (n : Int) (h : CfgOk c) : Tot (spec_MemberAfter c n) (fun x => x.1 = -1 ∨ 0 ≤ x.1 ∧ x.1 ≤ 4) := by
  have h1 := h.n1
  rw [spec_MemberAfter_eq]
  simp only [cond_dec, spec_ConfigValid_f, Option.bind_some, (configOk_iff c).2 h, Bool.not_true, cond_false]
  refine (l16Index_t c n (by omega)).bind fun r hr => Tot.ite (fun _ => Tot.val (.inl rfl)) fun hneg => ?_
  rw [w64 (n := (c.Members.length : Int) - 1) (by omega) (by omega)]
  refine Tot.ite (fun _ => Tot.val (.inl rfl)) fun hl => ?_
  have hr : 0 ≤ r.1 ∧ r.1 < c.Members.length := by
    rcases hr with hr | hr
    · omega
    · exact ⟨hr.1, hr.2.1⟩
  rw [w64 (n := r.1 + 1) (by omega) (by omega), if_pos (by omega), if_pos (by omega)]
  exact Tot.val (.inr (h.nodes _ (rd_mem (by omega) (by omega))))
/-! ### Replicas -/
def NodeOk (e : Int) (r : impl_Replica) : Prop := replicaOk r = true ∧ r.Conf.Epoch ≤ e
theorem enterConfig_t (e : Int) (r : impl_Replica) (n : Int) (c : impl_Config) (hr : NodeOk e r) (hn : 0 ≤ n ∧ n ≤ 4) (hc : configOk c = true) (he : c.Epoch ≤ e) : Tot (spec_EnterConfig r n c) (fun x => NodeOk e x.1.1) := by
  have hl := replicaOk_len hr.1
  have hc1 := ((configOk_iff c).1 hc).n1
  rw [spec_EnterConfig_eq, eta_Replica, spec_ReplicaValid_f r (by omega), Option.bind_some, hr.1, spec_l1In_f, Option.bind_some, decide_eq_true hn, spec_ConfigValid_f, Option.bind_some, hc, l17Copy_f r (by omega) (by omega)]
  simp only [cond_dec, Bool.not_true, cond_false, Option.bind_some, eta_Replica, l16Copy_f c (show c.Members.length ≤ 1000 by omega)]
  have nw : Tot (some ((impl_Replica.mk c r.Ready r.Log, (true, ())), ()) : Option ((impl_Replica × Bool × Unit) × Unit)) (fun x => NodeOk e x.1.1) := by
    refine Tot.val ⟨?_, he⟩
    rcases (replicaOk_iff r).1 hr.1 with ⟨_, h1, h2⟩ | ⟨_, h1, h2, h3⟩
    · exact replicaOk_mk hc ((entriesOk_iff _).2 ⟨by omega, fun e h => by rw [List.eq_nil_of_length_eq_zero h2] at h; cases h⟩) (.inr h2)
    · exact replicaOk_mk hc h2 h3
  refine (l16Index_t c n (by omega)).bind fun q hq => Tot.ite (fun _ => Tot.val hr) fun _ => Tot.ite (fun _ => Tot.val hr) fun _ => Tot.bif (fun _ => Tot.ite (fun _ => Tot.val ⟨replicaOk_mk hc rfl (.inr rfl), he⟩) fun _ => nw) fun _ => nw
theorem submitEntry_t (e : Int) (r : impl_Replica) (n : Int) (x : impl_Entry) (hr : NodeOk e r) (hn : 0 ≤ n ∧ n ≤ 4) (hx : entryOk x = true) : Tot (spec_SubmitEntry r n x) (fun x => NodeOk e x.1.1) := by
  have hl := replicaOk_len hr.1
  rw [spec_SubmitEntry_eq, eta_Replica, spec_ReplicaValid_f r (by omega), Option.bind_some, hr.1, spec_l1In_f, Option.bind_some, decide_eq_true hn, spec_EntryValid_f, Option.bind_some, hx, l17Copy_f r (by omega) (by omega)]
  simp only [cond_dec, Bool.not_true, cond_false, Option.bind_some, eta_Replica]
  refine Tot.bif (fun _ => Tot.val hr) fun hrd => ?_
  have hrd : r.Ready = true := by cases h : r.Ready <;> simp [h] at hrd ⊢
  obtain ⟨hc, he⟩ := replicaOk_ready hr.1 hrd
  have hm := ((configOk_iff _).1 hc).n0
  rw [if_pos (by omega)]
  refine Tot.bif (fun _ => Tot.val hr) fun _ => Tot.ite (fun _ => Tot.val hr) fun h24 => Tot.ok (ble_row (by simp; omega) (by omega)) (Tot.val ⟨replicaOk_mk hc ((entriesOk_iff _).2 ⟨by simp; omega, fun y hy => ?_⟩) (.inl hrd), hr.2⟩)
  rcases List.mem_append.1 hy with hy | hy
  · exact ((entriesOk_iff _).1 he).2 y hy
  · rw [List.mem_singleton.1 hy]; exact hx
theorem takeCopy_t (e : Int) (r : impl_Replica) (n : Int) (l : List impl_Entry) (hr : NodeOk e r) (hn : 1 ≤ n ∧ n ≤ 60) (hl' : entriesOk l = true) : Tot (spec_TakeCopy r n l) (fun x => NodeOk e x.1.1) := by
  have hl := replicaOk_len hr.1
  have h24 := entriesOk_len hl'
  rw [spec_TakeCopy_eq, eta_Replica, spec_ReplicaValid_f r (by omega), Option.bind_some, hr.1, spec_l1In_f, Option.bind_some, decide_eq_true hn, spec_l10Log_f _ (by omega), Option.bind_some, hl', l17Copy_f r (by omega) (by omega)]
  simp only [cond_dec, Bool.not_true, cond_false, Option.bind_some, eta_Replica]
  refine Tot.bif (fun _ => Tot.val hr) fun hep => ?_
  have hep : n = r.Conf.Epoch := by simpa using hep
  have nw : Tot (bif Nat.ble ((List.length ([] : List impl_Entry) + List.length l) * 56) maxRow then some ((impl_Replica.mk r.Conf true l, (true, ())), ()) else none : Option ((impl_Replica × Bool × Unit) × Unit)) (fun x => NodeOk e x.1.1) := by
    refine Tot.ok (ble_row (by simp; omega) (by omega)) (Tot.val ⟨?_, hr.2⟩)
    rcases (replicaOk_iff r).1 hr.1 with ⟨h1, _⟩ | ⟨_, h1, _⟩
    · have := (noConf_len h1).2; omega
    · exact replicaOk_mk h1 hl' (.inl rfl)
  exact Tot.bif (fun _ => Tot.ite (fun _ => Tot.val hr) fun _ => nw) fun _ => nw
theorem copyTarget_t (r : impl_Replica) (n : Int) (hr : replicaOk r = true) : Tot (spec_CopyTarget r n) (fun x => x.1 = -1 ∨ (0 ≤ x.1 ∧ x.1 ≤ 4) ∧ r.Ready = true) := by
  have hl := replicaOk_len hr
  rw [spec_CopyTarget_eq, eta_Replica, spec_ReplicaValid_f r (by omega), Option.bind_some, hr]
  cases h : r.Ready with
  | false => exact Tot.val (.inl rfl)
  | true =>
    have hc := (replicaOk_ready hr h).1
    exact (memberAfter_t r.Conf n ((configOk_iff _).1 hc)).bind fun q hq => Tot.val (hq.imp id fun h => ⟨h, rfl⟩)
theorem isTail_t (r : impl_Replica) (n : Int) (hr : replicaOk r = true) : Tot (spec_IsTail r n) (fun x => x.1 = true → r.Ready = true) := by
  have hl := replicaOk_len hr
  rw [spec_IsTail_eq, eta_Replica, spec_ReplicaValid_f r (by omega), Option.bind_some, hr, cond_true]
  cases h : r.Ready with
  | false => exact Tot.val fun h => by cases h
  | true =>
    have hc := (configOk_iff _).1 (replicaOk_ready hr h).1
    have := hc.n0
    rw [cond_true, w64 (by omega) (by omega)]
    simp only [cond_dec]
    rw [if_pos (by omega), if_pos (by omega)]
    exact Tot.val fun _ => trivial
/-! ### Bags -/
theorem bagAdd_t (e : Int) (l : List impl_Message) (m : impl_Message) (hl : BagOk e l) (hm : messageOk m = true) (he : m.Epoch ≤ e) : Tot (spec_BagAdd l m) (fun x => BagOk e x.1.1) := by
  have hb := hl.bag
  have h10 := hl.1
  have hml := messageOk_len hm
  rw [spec_BagAdd_eq, spec_BagValid_f l (fun m hm => by have := (messageOk_len (hl.2 m hm).1).2; omega), Option.bind_some, hb, eta_Message, spec_MessageValid_f m (by omega), Option.bind_some, hm, l18Bag_all l hb, l18Copy_f m (by omega) (by omega)]
  simp only [cond_dec, Bool.not_true, cond_false, Option.bind_some, eta_Message]
  refine Tot.ite (fun _ => Tot.val hl) fun h => Tot.ok (ble_row (by simp; omega) (by omega)) (Tot.val ⟨by show (l ++ [m]).length ≤ 10; simp; omega, fun y hy => ?_⟩)
  rcases List.mem_append.1 hy with hy | hy
  · exact hl.2 y hy
  · rw [List.mem_singleton.1 hy]; exact ⟨hm, he⟩
theorem bagTake_t (e : Int) (l : List impl_Message) (n : Int) (hl : BagOk e l) : Tot (spec_BagTake l n) (fun x => BagOk e x.1.2.1 ∧ (x.1.2.2.1 = true → messageOk x.1.1 = true ∧ x.1.1.Epoch ≤ e)) := by
  have hb := hl.bag
  have h10 := hl.1
  rw [spec_BagTake_eq, spec_BagValid_f l (fun m hm => by have := (messageOk_len (hl.2 m hm).1).2; omega), Option.bind_some, hb, w64 (by omega) (by omega), spec_l1In_f, Option.bind_some, l18Bag_all l hb]
  simp only [cond_dec, Bool.not_true, cond_false, Option.bind_some]
  by_cases h : 0 ≤ n ∧ n ≤ (l.length : Int) - 1
  · have hm := hl.2 (rdAt l n.toNat z_impl_Message) (rd_mem h.1 (by omega))
    have hml := messageOk_len hm.1
    rw [decide_eq_true h, Bool.not_true, cond_false, if_pos h.1, if_pos (by omega), eta_Message, l18Copy_f _ (by omega) (by omega), Option.bind_some, l18Bag_f l n hb, Option.bind_some]
    exact Tot.val ⟨⟨Nat.le_trans (keep_len _ _) h10, fun m hm => hl.2 m (keep_mem _ _ m hm)⟩, fun _ => hm⟩
  · rw [decide_eq_false h, Bool.not_false, cond_true]
    exact Tot.val ⟨hl, fun h => by cases h⟩
theorem bagRepeat_t (e : Int) (l : List impl_Message) (n : Int) (hl : BagOk e l) : Tot (spec_BagRepeat l n) (fun x => BagOk e x.1.1) := by
  have hb := hl.bag
  have h10 := hl.1
  rw [spec_BagRepeat_eq, spec_BagValid_f l (fun m hm => by have := (messageOk_len (hl.2 m hm).1).2; omega), Option.bind_some, hb, w64 (by omega) (by omega), spec_l1In_f, Option.bind_some, l18Bag_all l hb]
  simp only [cond_dec, Bool.not_true, cond_false, Option.bind_some]
  by_cases h : 0 ≤ n ∧ n ≤ (l.length : Int) - 1
  · have hm := hl.2 (rdAt l n.toNat z_impl_Message) (rd_mem h.1 (by omega))
    rw [decide_eq_true h, Bool.not_true, cond_false, if_pos h.1, if_pos (by omega), eta_Message]
    exact (bagAdd_t e l _ hl hm.1 hm.2).bind fun x hx => Tot.val hx
  · rw [decide_eq_false h, Bool.not_false, cond_true]
    exact Tot.val hl
end Go.Proofs.YtlffjoabajdfnaaGreat.Ev
