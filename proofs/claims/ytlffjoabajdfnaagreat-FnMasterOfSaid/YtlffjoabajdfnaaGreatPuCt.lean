/- Steps of a cluster, as the specification makes them: each deed returns, and valid clusters stay valid. No condition. -/
import Derived.Test.YtlffjoabajdfnaaGreatPuCs
set_option linter.unusedVariables false
set_option linter.unusedSimpArgs false
set_option linter.unusedSectionVars false
namespace Go.Proofs.YtlffjoabajdfnaaGreat.Ev
open Go.Proofs.YtlffjoabajdfnaaGreat.Eng
open Go.RowKit (wrap64)
theorem l27Copy_f (c : impl_Cluster) (h : ClOk c) : spec_l27Copy c = some (c, ()) := by
  have r40 := h.r40
  rw [spec_l27Copy_eq, ble_row (by simp; omega) (by omega), cond_true, l27Copy_3_f c h _ c _ _ _ c.Results c.Shards 0 _ [] (by omega) (by omega) rfl rfl]; rfl
/-! ### Deeds -/
structure DeedOk (d : impl_Deed) : Prop where
  valid : spec_DeedValid d = some (true, ())
  kind : 1 ≤ d.Kind ∧ d.Kind ≤ 9
  who : d.Kind ≤ 5 → 1 ≤ d.Who ∧ d.Who ≤ 3
  node : d.Kind = 3 ∨ d.Kind = 8 → 0 ≤ d.Node ∧ d.Node ≤ 4
  inner : d.Kind = 6 → EvOk d.Inner ∧ 0 ≤ d.Number
  work : d.Kind = 7 → planOk d.Work = true
abbrev Fine (x : (impl_Cluster × Bool × Unit) × Unit) : Prop := x.1.2.1 = true → ClOk x.1.1
theorem fine_no {c : impl_Cluster} : Fine ((c, false, ()), ()) := fun h => by cases h
theorem submit_t (c : impl_Cluster) (i n : Int) (e : impl_Entry) (h : ClOk c) (h0 : 0 ≤ i) (hi : i < c.Shards.length) (hn : 0 ≤ n ∧ n ≤ 4) (he : entryOk e = true) : Tot (spec_l28submit c i n e) Fine := by
  have ha := h.at_ (j := i.toNat) (by omega)
  rw [spec_l28submit_eq]
  simp only [cond_dec, if_pos h0, if_pos hi, eta_Chain]
  refine (chainStep_e _ ⟨1, n, 0, e⟩ ha.1 ⟨by dsimp only; omega, hn, by dsimp only; omega, .inl ⟨rfl, he⟩⟩).bind fun x hx => Tot.val fun _ => ?_
  exact h.setGroup (i := i.toNat) (by omega) hx.st (by rw [hx.up]; unfold upE; rw [if_neg (by dsimp only; omega)])
theorem hear6_t (c : impl_Cluster) (w : Int) (k : Int) (h : ClOk c) (hw : 1 ≤ w ∧ w ≤ 3) (A : List impl_Answer) (i : Int) (h0 : 0 ≤ i) (h1 : i ≤ A.length) (s1 : impl_Cluster) (s6 : List impl_Shard) (s7 : List impl_Caller) (s8 : List impl_Result) (s0 : impl_Cluster) (e1 : s0.Work = c.Work) (e2 : s0.Turn = c.Turn) (e3 : s0.Clock = c.Clock) :
    Tot (spec_l28hear_6 w k A i s0 s1 (rdAt c.Clients w.toNat z_impl_Caller) c.Shards c.Clients c.Results s6 s7 s8) Fine := by
  have c4 := h.c4
  have r40 := h.r40
  have hc := h.clients _ (rd_mem (d := z_impl_Caller) (i := w) (by omega) (show w < (c.Clients.length : Int) by omega))
  have hwl : w < (c.Clients.length : Int) := by omega
  rw [spec_l28hear_6_eq]
  simp only [cond_dec, if_pos h0, if_pos (show 0 ≤ w by omega), if_pos hwl, e1, e2, e3]
  refine Tot.ite (fun _ => Tot.val fine_no) fun hne => ?_
  have hi : i < (A.length : Int) := by omega
  simp only [if_pos hi]
  refine Tot.ite (fun _ => ?_) fun _ => ?_
  · exact (forget_t _ k (callerOk_cache hc)).bind fun x hx => Tot.val fun _ => h.setClient (i := w.toNat) (by omega) (callerOk_set hc hx)
  · refine (finish_t _ w _ c.Clock hc).bind fun x hx => Tot.bif (fun _ => Tot.val fine_no) fun ho => Tot.ite (fun _ => Tot.val fine_no) fun hr => ?_
    rw [Bool.not_eq_false'] at ho
    obtain ⟨hx1, hx2⟩ := hx ho
    rw [ble_row (by simp; omega) (by omega), cond_true]
    have h' := h.setClient (i := w.toNat) (by omega) hx1
    exact Tot.val fun _ => ⟨h'.n1, h'.n8, h'.c4, by show (c.Results ++ [_]).length ≤ 40; simp; omega, h'.shards, h'.clients, fun y hy => by
      rcases List.mem_append.1 hy with hy | hy
      · exact h.results y hy
      · rw [List.mem_singleton.1 hy]; exact hx2, h'.work, h'.routes, h'.zero, h'.turn, h'.clock⟩
theorem hear_t (c : impl_Cluster) (w : Int) (k : Int) (h : ClOk c) (hw : 1 ≤ w ∧ w ≤ 3) (h0 : 0 ≤ k) (hk : k < c.Shards.length) : Tot (spec_l28hear c w k) Fine := by
  have c4 := h.c4
  have hwl : w < (c.Clients.length : Int) := by omega
  have ha := (h.at_ (j := k.toNat) (by omega)).1.ans.1
  rw [spec_l28hear_eq]
  simp only [cond_dec, if_pos h0, if_pos hk, if_pos (show 0 ≤ w by omega), if_pos hwl]
  generalize (rdAt c.Shards k.toNat z_impl_Shard).Group.Answers = A at ha ⊢
  have go : ∀ (j : Nat) (i : Int), i + j = A.length → 0 ≤ i → ∀ (s0 s1 : impl_Cluster) (s6 : List impl_Shard) (s7 : List impl_Caller) (s8 : List impl_Result), s0.Work = c.Work → s0.Turn = c.Turn → s0.Clock = c.Clock → Tot (spec_l28hear_4 w k A i s0 s1 (rdAt c.Clients w.toNat z_impl_Caller) c.Shards c.Clients c.Results s6 s7 s8) Fine := by
    intro j
    induction j with
    | zero =>
      intro i hj hi s0 s1 s6 s7 s8 e1 e2 e3
      rw [spec_l28hear_4_eq, cond_dec, if_neg (by omega)]
      exact hear6_t c w k h hw A i hi (by omega) s1 s6 s7 s8 s0 e1 e2 e3
    | succ j ih =>
      intro i hj hi s0 s1 s6 s7 s8 e1 e2 e3
      have hlt : i < (A.length : Int) := by omega
      rw [spec_l28hear_4_eq]
      simp only [cond_dec, if_pos hlt, if_pos hi, w64 (n := i + 1) (by omega) (by omega)]
      refine Tot.bif (fun _ => ih (i + 1) (by omega) (by omega) s0 s1 s6 s7 s8 e1 e2 e3) fun _ => Tot.bif (fun _ => ih (i + 1) (by omega) (by omega) s0 s1 s6 s7 s8 e1 e2 e3) fun _ => ?_
      exact hear6_t c w k h hw A i hi (by omega) s1 s6 s7 s8 s0 e1 e2 e3
  exact go A.length 0 (by omega) (by omega) _ _ _ _ _ rfl rfl rfl
theorem client_t (c : impl_Cluster) (d : impl_Deed) (h : ClOk c) (hw : 1 ≤ d.Who ∧ d.Who ≤ 3) (hn : d.Kind = 3 → 0 ≤ d.Node ∧ d.Node ≤ 4) (hk : d.Kind = 2 ∨ d.Kind = 3 ∨ d.Kind = 4) : Tot (spec_l28client c d) Fine := by
  have c4 := h.c4
  have n1 := h.n1
  have n8 := h.n8
  have hwl : d.Who < (c.Clients.length : Int) := by omega
  have hc := h.clients _ (rd_mem (d := z_impl_Caller) (i := d.Who) (by omega) hwl)
  have hcl := cacheOk_len (callerOk_cache hc)
  rw [spec_l28client_eq]
  simp only [cond_dec, if_pos (show 0 ≤ d.Who by omega), if_pos hwl]
  refine Tot.bif (fun _ => Tot.val fine_no) fun hb => ?_
  rw [Bool.not_eq_false'] at hb
  refine Tot.ite (fun _ => ?_) fun k2 => ?_
  · rw [spec_l27Routes_f c n8, Option.bind_some]
    have hl : (isort [] (liveFrom 0 c.Shards)).length ≤ 8 := by
      rw [isort_length]; have := liveFrom_len c.Shards 0; simp; omega
    refine (routeOf_t _ _ (by dsimp only; omega)).bind fun n _ => (routeSpan_t _ n.1 (by dsimp only; omega)).bind fun v _ => (learn_t _ _ (by omega)).bind fun x hx => Tot.val fun _ => ?_
    exact h.setClient (i := d.Who.toNat) (by omega) (callerOk_set hc hx)
  · refine (cacheFind_t _ _ (by omega)).bind fun n _ => ?_
    rw [spec_l1In_f, Option.bind_some, w64 (n := (c.Shards.length : Int) - 1) (by omega) (by omega)]
    refine Tot.bif (fun _ => Tot.val fine_no) fun hin => ?_
    rw [Bool.not_eq_false', decide_eq_true_eq] at hin
    refine Tot.ite (fun _ => (hear_t c d.Who n.1 h hw hin.1 (by omega)).bind fun x hx => Tot.val hx) fun k4 => ?_
    exact (request_t _ d.Who hc hb (by omega)).bind fun e he => (submit_t c n.1 d.Node e.1.1 h hin.1 (by omega) (hn (by omega)) he).bind fun x hx => Tot.val hx
/-! ### Events of chains -/
theorem chain_l (c : impl_Cluster) (d : impl_Deed) (h : ClOk c) (he : EvOk d.Inner) (s2 : impl_Cluster) (s6 : List impl_Shard) (s7 : List impl_Caller) (s8 : List impl_Result) (s0 : impl_Cluster) (e1 : s0.Work = c.Work) (e2 : s0.Turn = c.Turn) (e3 : s0.Clock = c.Clock) :
    ∀ (j : Nat) (i : Int) (b : Bool) (S : List impl_Shard), i + j = c.Shards.length → 0 ≤ i → S.length = c.Shards.length → (∀ k : Nat, k < c.Shards.length → (rdAt S k z_impl_Shard).Live = (rdAt c.Shards k z_impl_Shard).Live ∧ Step (rdAt c.Shards k z_impl_Shard).Group (rdAt S k z_impl_Shard).Group ∧ (rdAt S k z_impl_Shard).Group.Up = if (k : Int) < i then upE d.Inner (firstUp c) else firstUp c) →
    Tot (spec_l28chain_5 b i s0 d s2 S c.Clients c.Results s6 s7 s8) Fine
  | 0, i, b, S, hj, h0, hl, hS => by
    rw [spec_l28chain_5_eq, cond_dec, if_neg (by omega), e1, e2, e3]
    refine Tot.val fun _ => h.groups (U := upE d.Inner (firstUp c)) ⟨hl, fun k hk => ?_⟩
    have := hS k hk
    rw [if_pos (by omega)] at this
    exact this
  | j + 1, i, b, S, hj, h0, hl, hS => by
    have n8 := h.n8
    have hi : i < (S.length : Int) := by omega
    have hii : i.toNat < c.Shards.length := by omega
    have hat := hS i.toNat hii
    have ih := fun b S => chain_l c d h he s2 s6 s7 s8 s0 e1 e2 e3 j (i + 1) b S (by omega) (by omega)
    have s8t : Tot (spec_l28chain_8 b i s0 d s2 S c.Clients c.Results s6 s7 s8) Fine := by
      rw [spec_l28chain_8_eq]
      simp only [cond_dec, if_pos hi, if_pos h0, eta_Chain, w64 (n := i + 1) (by omega) (by omega)]
      refine (chainStep_e _ d.Inner hat.2.1.ok he).bind fun x hx => ?_
      have key : ∀ k : Nat, k < c.Shards.length → (rdAt (List.set S i.toNat ⟨(rdAt S i.toNat z_impl_Shard).Live, x.1.1⟩) k z_impl_Shard).Live = (rdAt c.Shards k z_impl_Shard).Live ∧ Step (rdAt c.Shards k z_impl_Shard).Group (rdAt (List.set S i.toNat ⟨(rdAt S i.toNat z_impl_Shard).Live, x.1.1⟩) k z_impl_Shard).Group ∧ (rdAt (List.set S i.toNat ⟨(rdAt S i.toNat z_impl_Shard).Live, x.1.1⟩) k z_impl_Shard).Group.Up = if (k : Int) < i + 1 then upE d.Inner (firstUp c) else firstUp c := by
        intro k hk
        rw [rd_setN (by omega)]
        by_cases e : i.toNat = k
        · subst e
          rw [if_pos rfl, if_pos (by omega)]
          refine ⟨hat.1, hat.2.1.trans hx.st, ?_⟩
          dsimp only
          rw [hx.up, hat.2.2, if_neg (by omega)]
        · rw [if_neg e]
          have := hS k hk
          refine ⟨this.1, this.2.1, this.2.2.trans ?_⟩
          by_cases h1 : (k : Int) < i
          · rw [if_pos h1, if_pos (by omega)]
          · rw [if_neg h1, if_neg (by omega)]
      exact Tot.bif (fun _ => ih _ _ (by rw [List.length_set]; exact hl) key) fun _ => ih _ _ (by rw [List.length_set]; exact hl) key
    rw [spec_l28chain_5_eq]
    simp only [cond_dec, if_pos hi, w64 (n := i + 1) (by omega) (by omega)]
    refine Tot.ite (fun _ => s8t) fun _ => Tot.ite (fun _ => s8t) fun k9 => Tot.ite (fun _ => s8t) fun k10 => ih b S hl fun k hk => ?_
    have := hS k hk
    have eu : upE d.Inner (firstUp c) = firstUp c := by unfold upE; rw [if_neg (by omega)]
    rw [eu] at this ⊢
    refine ⟨this.1, this.2.1, this.2.2.trans ?_⟩
    split <;> split <;> rfl
theorem chainDeed_t (c : impl_Cluster) (d : impl_Deed) (h : ClOk c) (he : EvOk d.Inner) (h0 : 0 ≤ d.Number) : Tot (spec_l28chain c d) Fine := by
  rw [spec_l28chain_eq]
  simp only [cond_dec]
  refine Tot.ite (fun _ => Tot.val fine_no) fun _ => ?_
  refine chain_l c d h he _ _ _ _ ⟨[], [], [], c.Work, c.Turn, c.Clock⟩ rfl rfl rfl c.Shards.length 0 false c.Shards (by omega) (by omega) rfl fun k hk => ?_
  have := h.at_ hk
  rw [if_neg (by omega)]
  exact ⟨rfl, Step.refl this.1, this.2⟩
/-! ### Plans -/
theorem may_t (c : impl_Cluster) (p : impl_Plan) (h : ClOk c) (hp : planOk p = true) : Tot (spec_l28may c p) (fun x => x.1 = true → p.First < c.Shards.length ∧ p.Second < c.Shards.length) := by
  have n8 := h.n8
  obtain ⟨p1, p2, _⟩ := planOk_says hp
  rw [spec_l28may_eq]
  simp only [cond_dec, if_pos p1.1, if_pos p2.1]
  refine Tot.ite (fun _ => Tot.val fun h => by cases h) fun hf => ?_
  have hf : p.First < (c.Shards.length : Int) := by omega
  simp only [if_pos hf]
  refine Tot.bif (fun _ => Tot.val fun h => by cases h) fun _ => Tot.ite (fun _ => Tot.val fun h => by cases h) fun hs => ?_
  have hs : p.Second < (c.Shards.length : Int) := by omega
  have ok : ∀ b : Bool, b = true → p.First < (c.Shards.length : Int) ∧ p.Second < (c.Shards.length : Int) := fun _ _ => ⟨hf, hs⟩
  have ha := h.at_ (j := p.First.toNat) (by omega)
  have hcf := (configOk_iff _).1 ha.1.conf
  have m4 := hcf.n1
  simp only [if_pos hs]
  refine Tot.ite (fun _ => ?_) fun _ => Tot.ite (fun _ => ?_) fun _ => ?_
  · rw [spec_IntervalCut_f, Option.bind_some]
    refine Tot.bif (fun _ => Tot.ite (fun _ => ?_) fun _ => Tot.val (ok _)) fun _ => Tot.val (ok _)
    rw [spec_l27Routes_f c n8, Option.bind_some]; exact Tot.val (ok _)
  · rw [spec_IntervalJoin_f, Option.bind_some]
    exact Tot.bif (fun _ => Tot.bif (fun _ => Tot.val (ok _)) fun _ => Tot.val (ok _)) fun _ => Tot.val (ok _)
  · exact (l16Index_t _ _ (by omega)).bind fun x _ => Tot.ite (fun _ => (l16Index_t _ _ (by omega)).bind fun y _ => Tot.val (ok _)) fun _ => Tot.val (ok _)
theorem planSeal_t (p : impl_Plan) (t : Int) : Tot (spec_PlanSeal p t) (fun x => x.1.2.1 = true → entryOk x.1.1 = true ∧ planOk p = true) := by
  rw [spec_PlanSeal_eq, spec_PlanValid_f, Option.bind_some, spec_l1In_f, Option.bind_some]
  simp only [cond_dec]
  refine Tot.bif (fun _ => Tot.val fun h => by cases h) fun hp => Tot.ite (fun _ => Tot.val fun h => by cases h) fun _ => Tot.bif (fun _ => Tot.val fun h => by cases h) fun ht => Tot.val fun _ => ?_
  rw [Bool.not_eq_false'] at hp
  rw [Bool.not_eq_false', decide_eq_true_eq] at ht
  obtain ⟨_, _, _, hk, _⟩ := planOk_says hp
  refine ⟨?_, hp⟩
  simp only [entryOk, cmdOk, Bool.and_eq_true, Bool.or_eq_true, decide_eq_true_eq]
  simp [ht.1, ht.2]
  exact hk.symm
theorem newChain_w (b : impl_State) (M : List Int) (h1 : b.Pairs.length ≤ 1000) (h2 : b.Known.length ≤ 1000) (h3 : M.length ≤ 1000) : Tot (spec_NewChain b M) (fun x => ChainIn x.1) := by
  have z : ChainIn (impl_Chain.mk (impl_State.mk (impl_Interval.mk es es) [] [] false es) (impl_Config.mk 0 [] false) [] [] [] []) := ⟨by simp, fun r h => (by cases h), fun m h => (by cases h)⟩
  cases hb : stateOk b with
  | false =>
    rw [spec_NewChain_eq, ble_row (by simp; omega) (by omega), cond_true, spec_StateValid_f b (by omega), Option.bind_some, hb]
    exact Tot.val z
  | true =>
    cases hm : configOk ⟨1, M, false⟩ with
    | false =>
      rw [spec_NewChain_eq, ble_row (by simp; omega) (by omega), cond_true, spec_StateValid_f b (by omega), Option.bind_some, hb, spec_ConfigValid_f, Option.bind_some, hm]
      exact Tot.val z
    | true => exact (newChain_t b M hb hm).mono fun x hx => hx.inn
structure Near (c : impl_Cluster) (n : Nat) : Prop where
  inn : ClusterIn c
  n1 : 1 ≤ c.Shards.length
  len : c.Shards.length ≤ n
  up : (firstUp c).length ≤ 1000
theorem born_t (c : impl_Cluster) (n : Nat) (hn : n ≤ 1000) (h : Near c n) (b : impl_State) (M : List Int) (h1 : b.Pairs.length ≤ 1000) (h2 : b.Known.length ≤ 1000) (h3 : M.length ≤ 1000) : Tot (spec_l28born c b M) (fun x => Near x.1 (n + 1) ∧ c.Shards.length ≤ x.1.Shards.length) := by
  have a1 := h.n1
  have a2 := h.len
  have a3 := h.up
  unfold firstUp at a3
  rw [spec_l28born_eq]
  refine (newChain_w b M h1 h2 h3).bind fun x hx => ?_
  rw [cond_dec, if_pos (by omega), ble_row (by simp; omega) (by omega), cond_true, ble_row2 (by simp; omega) (by omega), cond_true]
  refine Tot.val ⟨⟨⟨fun s hs => ?_, h.inn.clients⟩, by simp, by simp; omega, ?_⟩, by simp⟩
  · rcases List.mem_append.1 hs with hs | hs
    · exact h.inn.shards s hs
    · rw [List.mem_singleton.1 hs]; exact ⟨hx.known, hx.logs, hx.bags⟩
  · unfold firstUp
    have e : rdAt (c.Shards ++ [impl_Shard.mk true (impl_Chain.mk x.1.Base x.1.Conf x.1.Nodes (rdAt c.Shards 0 z_impl_Shard).Group.Up x.1.Bag x.1.Answers)]) 0 z_impl_Shard = rdAt c.Shards 0 z_impl_Shard := by
      unfold rdAt
      rw [List.getD_eq_getElem?_getD, List.getD_eq_getElem?_getD, List.getElem?_append_left (by omega)]
    dsimp only
    rw [e]; exact a3
theorem answeredState_t (c : impl_Chain) (h : ChOk c) : Tot (spec_AnsweredState c) (fun x => x.1.Pairs.length ≤ 48 ∧ x.1.Known.length ≤ 5) := by
  have ha := h.ans.1
  rw [spec_AnsweredState_eq, eta_Chain, spec_ChainValid_f c h.inn, Option.bind_some, (chainOk_iff c).2 h, Bool.not_true, cond_false, spec_AnsweredLog_f c h.inn ((chainOk_iff c).2 h), Option.bind_some, spec_Replay_f _ _ h.inn.known (by simp [asked]; omega), Option.bind_some]
  exact Tot.val (replayR_len _ _)
theorem stateCut_t (s : impl_State) (h1 : s.Pairs.length ≤ 48) (h2 : s.Known.length ≤ 5) : Tot (spec_StateCut s) (fun x => (x.1.1.Pairs.length ≤ 1000 ∧ x.1.1.Known.length ≤ 1000) ∧ x.1.2.1.Pairs.length ≤ 1000 ∧ x.1.2.1.Known.length ≤ 1000) := by
  have z : ∀ b : Bool, Tot (some ((zState, (zState, (b, ()))), ())) (fun x : (impl_State × impl_State × Bool × Unit) × Unit => (x.1.1.Pairs.length ≤ 1000 ∧ x.1.1.Known.length ≤ 1000) ∧ x.1.2.1.Pairs.length ≤ 1000 ∧ x.1.2.1.Known.length ≤ 1000) := fun b => Tot.val ⟨⟨by simp, by simp⟩, by simp, by simp⟩
  rw [spec_StateCut_eq, spec_IntervalCut_f, Option.bind_some, spec_StateValid_f s (by omega), Option.bind_some, ble_row (by simp; omega) (by omega)]
  refine Tot.bif (fun _ => z _) fun _ => Tot.bif (fun _ => z _) fun _ => Tot.bif (fun _ => z _) fun _ => ?_
  refine (PairsIn_t _ _).bind fun x hx => ?_
  rw [cond_true]
  refine (PairsIn_t _ _).bind fun y hy => ?_
  exact Tot.val ⟨⟨by dsimp only; omega, by dsimp only; omega⟩, by dsimp only; omega, by dsimp only; omega⟩
theorem sessJoin_t (b : List impl_Session) (hb : b.length ≤ 1000) : ∀ (j : Nat) (i : Int) (l : List impl_Session), i + j = b.length → 0 ≤ i → l.length ≤ 1000 → Tot (spec_SessionsJoin_5 b i l) (fun x => x.1.length ≤ 1000)
  | 0, i, l, hj, h0, hl => by rw [spec_SessionsJoin_5_eq, cond_dec, if_neg (by omega)]; exact Tot.val hl
  | j + 1, i, l, hj, h0, hl => by
    rw [spec_SessionsJoin_5_eq]
    simp only [cond_dec]
    rw [if_pos (by omega), if_pos h0, if_pos (by omega), spec_SessionPut_f _ _ (by omega), Option.bind_some, w64 (n := i + 1) (by omega) (by omega)]
    exact sessJoin_t b hb j (i + 1) _ (by omega) (by omega) (by have := sessPut_length l (rdAt b i.toNat z_impl_Session); dsimp only; omega)
theorem stateJoin_t (a b : impl_State) (h1 : a.Pairs.length ≤ 48) (h2 : a.Known.length ≤ 5) (h3 : b.Pairs.length ≤ 48) (h4 : b.Known.length ≤ 5) : Tot (spec_StateJoin a b) (fun x => x.1.1.Pairs.length ≤ 1000 ∧ x.1.1.Known.length ≤ 1000) := by
  have z : ∀ (s0 : impl_State) (s1 : List impl_Pair) (s2 : List impl_Session), Tot (spec_StateJoin_3 s0 s1 s2) (fun x => x.1.1.Pairs.length ≤ 1000 ∧ x.1.1.Known.length ≤ 1000) := fun s0 s1 s2 => by
    rw [spec_StateJoin_3_eq]; exact Tot.val ⟨by simp, by simp⟩
  rw [spec_StateJoin_eq, spec_IntervalJoin_f, Option.bind_some, spec_StateValid_f a (by omega), Option.bind_some, spec_StateValid_f b (by omega), Option.bind_some]
  refine Tot.bif (fun _ => z _ _ _) fun _ => Tot.bif (fun _ => z _ _ _) fun _ => Tot.bif (fun _ => z _ _ _) fun _ => Tot.bif (fun _ => z _ _ _) fun _ => Tot.bif (fun _ => z _ _ _) fun _ => Tot.bif (fun _ => z _ _ _) fun _ => Tot.bif (fun _ => z _ _ _) fun _ => ?_
  rw [spec_PairsJoin_eq, ble_row (by simp; omega) (by omega), cond_true]
  simp only [cond_dec]
  rw [if_neg (by omega), if_neg (by omega), ble_row (by omega) (by omega), cond_true, spec_PairsValid_f, Option.bind_some]
  refine Tot.bind (Q := fun x => x.1.1.length ≤ 100) (Tot.bif (fun _ => Tot.val (by simp)) fun _ => Tot.val (by simp; omega)) fun x hx => Tot.bif (fun _ => Tot.val ⟨by simp, by simp⟩) fun _ => ?_
  rw [spec_SessionsJoin_eq, spec_SessionsValid_f _ (by omega), Option.bind_some, spec_SessionsValid_f _ (by omega), Option.bind_some, ble_row (by simp; omega) (by omega), cond_true]
  refine Tot.bind (Q := fun x => x.1.length ≤ 1000) (Tot.bif (fun _ => Tot.val (by simp)) fun _ => Tot.bif (fun _ => Tot.val (by simp)) fun _ => sessJoin_t _ (by omega) b.Known.length 0 _ (by omega) (by omega) (by omega)) fun y hy => Tot.val ⟨by dsimp only; omega, hy⟩
theorem sealedBy_t (c : impl_Chain) (e : impl_Entry) (h : ChOk c) : Tot (spec_SealedBy c e) (fun _ => True) := by
  have ha := h.ans.1
  rw [spec_SealedBy_eq, eta_Chain, spec_ChainValid_f c h.inn, Option.bind_some, spec_EntryValid_f, Option.bind_some]
  refine Tot.bif (fun _ => Tot.val trivial) fun _ => Tot.bif (fun _ => Tot.val trivial) fun _ => Tot.bif (fun _ => Tot.val trivial) fun _ => ?_
  have go : ∀ (j : Nat) (i : Int), i + j = c.Answers.length → 0 ≤ i → Tot (spec_SealedBy_4 i c e) (fun _ => True) := by
    intro j
    induction j with
    | zero => intro i hj h0; rw [spec_SealedBy_4_eq, cond_dec, if_neg (by omega)]; exact Tot.val trivial
    | succ j ih =>
      intro i hj h0
      have hi : i < (c.Answers.length : Int) := by omega
      rw [spec_SealedBy_4_eq]
      simp only [cond_dec, if_pos hi, if_pos h0, w64 (n := i + 1) (by omega) (by omega)]
      exact Tot.bif (fun _ => Tot.ite (fun _ => Tot.val trivial) fun _ => ih (i + 1) (by omega) (by omega)) fun _ => ih (i + 1) (by omega) (by omega)
  exact go c.Answers.length 0 (by omega) (by omega)
theorem Near.off {c : impl_Cluster} {n : Nat} (h : Near c n) (i : Nat) : ClusterIn ⟨List.set c.Shards i ⟨false, (rdAt c.Shards i z_impl_Shard).Group⟩, c.Clients, c.Results, c.Work, c.Turn, c.Clock⟩ := by
  refine ⟨fun s hs => ?_, h.inn.clients⟩
  rcases mem_set hs with rfl | hs
  · by_cases hi : i < c.Shards.length
    · show ChainIn (rdAt c.Shards i z_impl_Shard).Group
      exact h.inn.shards _ (rd_mem' hi)
    · have e : rdAt c.Shards i z_impl_Shard = z_impl_Shard := by
        unfold rdAt
        rw [List.getD_eq_getElem?_getD, List.getElem?_eq_none (by omega)]; rfl
      dsimp only
      rw [e]
      exact ⟨Nat.zero_le _, fun r h => (by cases h), fun m h => (by cases h)⟩
  · exact h.inn.shards s hs
theorem next21_t (b : Bool) (s0 s1 : impl_Cluster) (p : impl_Plan) (S : List impl_Shard) (C : List impl_Caller) (R : List impl_Result) (s6 : List impl_Shard) (s7 : List impl_Caller) (s8 : List impl_Result) (hi : ClusterIn ⟨S, C, R, s0.Work, s0.Turn, s0.Clock⟩) (h0 : 0 ≤ p.First) (h1 : p.First < S.length) : Tot (spec_l28next_21 b s0 s1 p S C R s6 s7 s8) Fine := by
  rw [spec_l28next_21_eq]
  simp only [cond_dec, if_pos h0, if_pos h1]
  refine Tot.bif (fun _ => ?_) fun _ => Tot.val fine_no
  have hin : ClusterIn (impl_Cluster.mk (List.set S p.First.toNat (impl_Shard.mk false (rdAt S p.First.toNat z_impl_Shard).Group)) C R (impl_Plan.mk 0 0 0 es 0 0 0) s0.Turn s0.Clock) := by
    refine ⟨fun s hs => ?_, hi.clients⟩
    rcases mem_set hs with rfl | hs
    · show ChainIn (rdAt S p.First.toNat z_impl_Shard).Group
      exact hi.shards _ (rd_mem h0 h1)
    · exact hi.shards s hs
  rw [spec_ClusterValid_f _ hin, Option.bind_some]
  exact Tot.val fun hv => (clusterOk_iff _).1 hv
theorem next11_t (c : impl_Cluster) (h : ClOk c) (p : impl_Plan) (hf : 0 ≤ p.First ∧ p.First < c.Shards.length) (hs : 0 ≤ p.Second ∧ p.Second < c.Shards.length) (s1 : impl_Cluster) (g o : impl_Chain) (hg : ChOk g) (ho : ChOk o) (s8 : List impl_Shard) (s9 : List impl_Caller) (s10 : List impl_Result) (s0 : impl_Cluster) (e1 : s0.Work = c.Work) (e2 : s0.Turn = c.Turn) (e3 : s0.Clock = c.Clock) :
    Tot (spec_l28next_11 s0 s1 p g o c.Shards c.Clients c.Results s8 s9 s10) Fine := by
  have n1 := h.n1
  have n8 := h.n8
  have hcg := (configOk_iff _).1 hg.conf
  have m4 := hcg.n1
  have near : Near c 8 := ⟨h.inn, n1, n8, by have := (h.at_ (j := 0) (by omega)); rw [← this.2, this.1.u5]; omega⟩
  rw [spec_l28next_11_eq]
  simp only [eta_Chain, cond_dec, e1, e2, e3, eta_Cluster]
  refine (completeMembers_t g.Conf hcg).bind fun M hM => ?_
  have hM : M.1.length ≤ 1000 := by rw [hM]; split <;> omega
  refine Tot.ite (fun _ => ?_) fun _ => ?_
  · refine (answeredState_t g hg).bind fun s hs' => (stateCut_t s.1 hs'.1 hs'.2).bind fun x hx => (born_t c 8 (by omega) near _ _ hx.1.1 hx.1.2 hM).bind fun y hy => (born_t y.1 9 (by omega) hy.1 _ _ hx.2.1 hx.2.2 hM).bind fun z hz => ?_
    exact next21_t _ _ _ _ _ _ _ _ _ _ ⟨hz.1.inn.shards, hz.1.inn.clients⟩ hf.1 (by have := hy.2; have := hz.2; omega)
  · refine (answeredState_t g hg).bind fun s hs' => (answeredState_t o ho).bind fun t ht => (stateJoin_t s.1 t.1 hs'.1 hs'.2 ht.1 ht.2).bind fun x hx => (born_t c 8 (by omega) near _ _ hx.1 hx.2 hM).bind fun y hy => ?_
    have := hy.2
    rw [if_pos hs.1, if_pos (by omega)]
    exact next21_t _ _ _ _ _ _ _ _ _ _ ⟨(hy.1.off _).shards, hy.1.inn.clients⟩ hf.1 (by rw [List.length_set]; omega)
theorem move6_t (c : impl_Cluster) (h : ClOk c) (hk : c.Work.Kind = 3) (b : Bool) (g : impl_Chain) (hg : rdAt c.Shards c.Work.First.toNat z_impl_Shard = ⟨(rdAt c.Shards c.Work.First.toNat z_impl_Shard).Live, g⟩) (s1 : impl_Cluster) (s7 : List impl_Shard) (s8 : List impl_Caller) (s9 : List impl_Result) (s0 : impl_Cluster) (e1 : s0.Work = c.Work) (e2 : s0.Turn = c.Turn) (e3 : s0.Clock = c.Clock) :
    Tot (spec_l28move_6 b s0 s1 c.Work g c.Shards c.Clients c.Results s7 s8 s9) Fine := by
  obtain ⟨hp, hf, hs⟩ := h.plan (by omega)
  obtain ⟨p1, p2, _, _, p5⟩ := planOk_says hp
  obtain ⟨p6, p7⟩ := p5 hk
  have ha := h.at_ (j := c.Work.First.toNat) (by omega)
  have hgg : (rdAt c.Shards c.Work.First.toNat z_impl_Shard).Group = g := by rw [hg]
  have hgo : ChOk g := hgg ▸ ha.1
  have z : ClOk ⟨c.Shards, c.Clients, c.Results, zPlan, c.Turn, c.Clock⟩ := h.setWork (workOk_zero _) h.turn
  rw [spec_l28move_6_eq]
  simp only [eta_Chain, cond_dec, e1, e2, e3, if_pos p1.1, if_pos hf]
  have hset : ∀ (e : impl_Event) (x : impl_Chain), e.Kind ≠ 9 → e.Kind ≠ 10 → StepE e g x → ClOk ⟨List.set c.Shards c.Work.First.toNat ⟨(rdAt c.Shards c.Work.First.toNat z_impl_Shard).Live, x⟩, c.Clients, c.Results, c.Work, c.Turn, c.Clock⟩ := fun e x k9 k10 hx =>
    h.setGroup (i := c.Work.First.toNat) (by omega) (by rw [hgg]; exact hx.st) (by rw [hgg, hx.up]; unfold upE; rw [if_neg (by omega)])
  refine Tot.ite (fun _ => ?_) fun _ => Tot.bif (fun _ => ?_) fun _ => Tot.val fun _ => z
  · refine (chainStep_e g ⟨12, c.Work.To, 0, zEntry⟩ hgo (ev0 (by omega) p7 (by omega))).bind fun x hx => Tot.bif (fun _ => ?_) fun _ => Tot.val fun _ => z
    refine Tot.val fun _ => (hset _ _ (by simp) (by simp) hx).setWork (p := impl_Plan.mk c.Work.Kind c.Work.First c.Work.Second c.Work.Key c.Work.From c.Work.To 1) ?_ h.turn
    show workOk _ ((List.set c.Shards _ _).length : Int) = true
    rw [List.length_set]
    unfold workOk
    rw [Bool.or_eq_true, Bool.and_eq_true]
    refine .inr ⟨?_, decide_eq_true ⟨hf, hs⟩⟩
    unfold planOk at hp ⊢
    rw [Bool.and_eq_true, decide_eq_true_eq] at hp
    dsimp only
    rw [decide_eq_true hp.1, Bool.true_and]
    rw [if_neg (by omega), if_neg (by omega), if_pos hk] at hp ⊢
    simp only [Bool.and_eq_true, decide_eq_true_eq] at hp ⊢
    exact ⟨by omega, hp.2.2⟩
  · refine (chainStep_e g ⟨11, c.Work.From, 0, zEntry⟩ hgo (ev0 (by omega) p6 (by omega))).bind fun x hx => Tot.val fun _ => ?_
    exact (hset _ _ (by simp) (by simp) hx).setWork (workOk_zero _) h.turn
theorem move_t (c : impl_Cluster) (h : ClOk c) (hk : c.Work.Kind = 3) : Tot (spec_l28move c) Fine := by
  obtain ⟨hp, hf, hs⟩ := h.plan (by omega)
  obtain ⟨p1, p2, _, _, p5⟩ := planOk_says hp
  have ha := h.at_ (j := c.Work.First.toNat) (by omega)
  have m4 := ((configOk_iff _).1 ha.1.conf).n1
  rw [spec_l28move_eq]
  simp only [eta_Chain, cond_dec, if_pos p1.1, if_pos hf]
  have m6 : ∀ b, _ := fun b => move6_t c h hk b (rdAt c.Shards c.Work.First.toNat z_impl_Shard).Group rfl
  refine (l16Index_t _ _ (by omega)).bind fun x _ => Tot.bif (fun _ => Tot.ite (fun _ => Tot.val fine_no) fun _ => Tot.ite (fun _ => Tot.val fine_no) fun _ => ?_) fun _ => ?_
  · exact m6 _ _ _ _ _ _ rfl rfl rfl
  · exact m6 _ _ _ _ _ _ rfl rfl rfl
theorem next_t (c : impl_Cluster) (h : ClOk c) : Tot (spec_l28next c) Fine := by
  rw [spec_l28next_eq]
  simp only [eta_Chain, cond_dec]
  refine Tot.ite (fun _ => Tot.val fine_no) fun k0 => Tot.ite (fun k3 => (move_t c h k3).bind fun x hx => Tot.val hx) fun k3 => ?_
  obtain ⟨hp, hf, hs⟩ := h.plan k0
  obtain ⟨p1, p2, _, _, _⟩ := planOk_says hp
  have hg := (h.at_ (j := c.Work.First.toNat) (by omega)).1
  have ho := (h.at_ (j := c.Work.Second.toNat) (by omega)).1
  rw [if_pos p1.1, if_pos hf, if_pos p2.1, if_pos hs]
  have n11 := next11_t c h c.Work ⟨p1.1, hf⟩ ⟨p2.1, hs⟩
  refine (planSeal_t _ _).bind fun e _ => (sealedBy_t _ _ hg).bind fun x _ => Tot.bif (fun _ => Tot.val fine_no) fun _ => Tot.ite (fun _ => (sealedBy_t _ _ ho).bind fun y _ => Tot.bif (fun _ => Tot.val fine_no) fun _ => ?_) fun _ => ?_
  · exact n11 _ _ _ hg ho _ _ _ _ rfl rfl rfl
  · exact n11 _ _ _ hg ho _ _ _ _ rfl rfl rfl
theorem do_t (c : impl_Cluster) (d : impl_Deed) (h : ClOk c) (hd : DeedOk d) : Tot (spec_l28do c d) Fine := by
  have c4 := h.c4
  have turn := h.turn
  have kd := hd.kind
  rw [spec_l28do_eq]
  simp only [cond_dec]
  refine Tot.ite (fun k => ?_) fun k1 => Tot.ite (fun k => ?_) fun k5 => Tot.ite (fun k => ?_) fun k2 => Tot.ite (fun k => ?_) fun k3 => Tot.ite (fun k => ?_) fun k4 => Tot.ite (fun k => ?_) fun k6 => Tot.ite (fun k => ?_) fun k7 => Tot.ite (fun k => ?_) fun k8 => (next_t c h).bind fun x hx => Tot.val hx
  · have hw := hd.who (by omega)
    have hwl : d.Who < (c.Clients.length : Int) := by omega
    have hc := h.clients _ (rd_mem (d := z_impl_Caller) (i := d.Who) (by omega) hwl)
    rw [if_pos (by omega), if_pos hwl]
    refine (ask_t _ _ _ hc).bind fun x hx => ?_
    rw [if_pos (by omega), if_pos hwl]
    exact Tot.val fun ho => h.setClient (i := d.Who.toNat) (by omega) (hx ho)
  · have hw := hd.who (by omega)
    have hwl : d.Who < (c.Clients.length : Int) := by omega
    have hc := h.clients _ (rd_mem (d := z_impl_Caller) (i := d.Who) (by omega) hwl)
    rw [if_pos (by omega), if_pos hwl]
    refine (giveUp_t _ hc).bind fun x hx => ?_
    rw [if_pos (by omega), if_pos hwl]
    exact Tot.val fun _ => h.setClient (i := d.Who.toNat) (by omega) hx
  · exact (client_t c d h (hd.who (by omega)) (fun k => hd.node (.inl k)) (by omega)).bind fun x hx => Tot.val hx
  · exact (client_t c d h (hd.who (by omega)) (fun k => hd.node (.inl k)) (by omega)).bind fun x hx => Tot.val hx
  · exact (client_t c d h (hd.who (by omega)) (fun k => hd.node (.inl k)) (by omega)).bind fun x hx => Tot.val hx
  · exact (chainDeed_t c d h (hd.inner k).1 (hd.inner k).2).bind fun x hx => Tot.val hx
  · refine Tot.bif (fun _ => Tot.val fine_no) fun _ => Tot.ite (fun _ => Tot.val fine_no) fun ht => (may_t c d.Work h (hd.work k)).bind fun x hx => Tot.bif (fun _ => Tot.val fine_no) fun hm => Tot.val fun _ => ?_
    rw [Bool.not_eq_false'] at hm
    obtain ⟨m1, m2⟩ := hx hm
    rw [w64 (n := c.Turn + 1) (by omega) (by omega)]
    refine h.setWork ?_ (by omega)
    unfold workOk
    rw [Bool.or_eq_true, Bool.and_eq_true]
    exact .inr ⟨hd.work k, decide_eq_true ⟨m1, m2⟩⟩
  · have hn := hd.node (.inr k)
    refine (planSeal_t _ _).bind fun e he => Tot.bif (fun _ => Tot.val fine_no) fun ho => ?_
    rw [Bool.not_eq_false'] at ho
    obtain ⟨heo, hpo⟩ := he ho
    have k0 : c.Work.Kind ≠ 0 := by have := (planOk_says hpo).2.2.1; omega
    obtain ⟨hp, hf, hs⟩ := h.plan k0
    obtain ⟨p1, p2, _⟩ := planOk_says hp
    refine Tot.bif (fun _ => Tot.bif (fun _ => Tot.val fine_no) fun _ => Tot.bif (fun _ => Tot.val fine_no) fun hn2 => ?_) fun hn1 => ?_
    · rw [Bool.not_eq_false', decide_eq_true_eq] at hn2
      exact (submit_t c d.Number d.Node _ h (by omega) (by omega) hn heo).bind fun x hx => Tot.val hx
    · rw [Bool.not_eq_false', decide_eq_true_eq] at hn1
      exact (submit_t c d.Number d.Node _ h (by omega) (by omega) hn heo).bind fun x hx => Tot.val hx
theorem clusterStep_t (c : impl_Cluster) (d : impl_Deed) (h : ClOk c) (hd : DeedOk d) : Tot (spec_ClusterStep c d) (fun x => ClOk x.1.1) := by
  have clock := h.clock
  rw [spec_ClusterStep_eq, spec_ClusterValid_f c h.inn, Option.bind_some, (clusterOk_iff c).2 h, hd.valid, Option.bind_some, l27Copy_f c h, Option.bind_some]
  simp only [Bool.not_true, cond_false, cond_dec]
  refine Tot.ite (fun _ => Tot.val h) fun hc => ?_
  rw [Option.bind_some]
  refine (do_t c d h hd).bind fun x hx => Tot.bif (fun _ => Tot.val h) fun ho => ?_
  rw [Bool.not_eq_false'] at ho
  have k := hx ho
  rw [w64 (n := c.Clock + 1) (by omega) (by omega)]
  exact Tot.val ⟨k.n1, k.n8, k.c4, k.r40, k.shards, k.clients, k.results, k.work, k.routes, k.zero, k.turn, by dsimp only; omega⟩
end Go.Proofs.YtlffjoabajdfnaaGreat.Ev
