/- Same states, configurations, replicas, messages and chains; new chains, as the program makes them; plays that are drawn. No condition. -/
import Derived.Test.YthkdkojfahaeaaaGreatPuIv
import Derived.Test.YthkdkojfahaeaaaGreatPuDy
import Derived.Test.YthkdkojfahaeaaaGreatPuAl
set_option linter.unusedVariables false
set_option linter.unusedSimpArgs false
namespace Go.Proofs.YthkdkojfahaeaaaGreat.Ev
open Go.Proofs.YthkdkojfahaeaaaGreat.Eng
open Go.RowKit (wrap64)
/-! ### Same -/
theorem beqS (b : Bool) : beqB b b = true := by cases b <;> rfl
theorem len_of {a b : Nat} (h : (!decide ((a : Int) = (b : Int))) = false) : a = b := by simp at h; omega
theorem nope {q : Bool} {P : Prop} (h : q = true) (hb : (!q) = true) : P := by rw [h] at hb; cases hb
theorem samePairs_l (xs ys : List impl_Pair) (h : xs.length = ys.length) (hx : xs.length ≤ 1000) : ∀ (j : Nat) (i : Int), i + j = xs.length → 0 ≤ i → Tot (laws_samePairs_4 xs ys i) (fun r => xs = ys → r.1 = true)
  | 0, i, hj, h0 => by rw [laws_samePairs_4_eq, cond_dec, if_neg (by omega)]; exact Tot.val fun _ => rfl
  | j + 1, i, hj, h0 => by
    rw [laws_samePairs_4_eq, cond_dec, if_pos (by omega), cond_dec, if_pos h0, cond_dec, if_pos (by omega), cond_dec, if_pos h0, cond_dec, if_pos (by omega), w64 (n := i + 1) (by omega) (by omega)]
    exact Tot.bif (fun hb => Tot.val fun e => by subst e; simp [eqI_dec, sEq_dec] at hb) fun _ => samePairs_l xs ys h hx j (i + 1) (by omega) (by omega)
theorem samePairs_t (xs ys : List impl_Pair) (hx : xs.length ≤ 1000) : Tot (laws_samePairs xs ys) (fun r => xs = ys → r.1 = true) := by
  rw [laws_samePairs_eq]
  refine Tot.bif (fun hb => Tot.val fun e => by subst e; simp at hb) fun hb => ?_
  have h : xs.length = ys.length := len_of hb
  exact samePairs_l xs ys h hx xs.length 0 (by omega) (by omega)
theorem sameSessions_l (xs ys : List impl_Session) (h : xs.length = ys.length) (hx : xs.length ≤ 1000) : ∀ (j : Nat) (i : Int), i + j = xs.length → 0 ≤ i → Tot (laws_sameSessions_4 xs ys i) (fun r => xs = ys → r.1 = true)
  | 0, i, hj, h0 => by rw [laws_sameSessions_4_eq, cond_dec, if_neg (by omega)]; exact Tot.val fun _ => rfl
  | j + 1, i, hj, h0 => by
    rw [laws_sameSessions_4_eq, cond_dec, if_pos (by omega), cond_dec, if_pos h0, cond_dec, if_pos (by omega), cond_dec, if_pos h0, cond_dec, if_pos (by omega), w64 (n := i + 1) (by omega) (by omega)]
    exact Tot.bif (fun hb => Tot.val fun e => by subst e; simp [eqI_dec, sEq_dec] at hb) fun _ => sameSessions_l xs ys h hx j (i + 1) (by omega) (by omega)
theorem sameSessions_t (xs ys : List impl_Session) (hx : xs.length ≤ 1000) : Tot (laws_sameSessions xs ys) (fun r => xs = ys → r.1 = true) := by
  rw [laws_sameSessions_eq]
  refine Tot.bif (fun hb => Tot.val fun e => by subst e; simp at hb) fun hb => ?_
  have h : xs.length = ys.length := len_of hb
  exact sameSessions_l xs ys h hx xs.length 0 (by omega) (by omega)
theorem sameInts_l (xs ys : List Int) (h : xs.length = ys.length) (hx : xs.length ≤ 1000) : ∀ (j : Nat) (i : Int), i + j = xs.length → 0 ≤ i → Tot (laws_sameInts_4 xs ys i) (fun r => xs = ys → r.1 = true)
  | 0, i, hj, h0 => by rw [laws_sameInts_4_eq, cond_dec, if_neg (by omega)]; exact Tot.val fun _ => rfl
  | j + 1, i, hj, h0 => by
    rw [laws_sameInts_4_eq, cond_dec, if_pos (by omega), cond_dec, if_pos h0, cond_dec, if_pos (by omega), cond_dec, if_pos h0, cond_dec, if_pos (by omega), w64 (n := i + 1) (by omega) (by omega)]
    exact Tot.bif (fun hb => Tot.val fun e => by subst e; simp [eqI_dec, sEq_dec] at hb) fun _ => sameInts_l xs ys h hx j (i + 1) (by omega) (by omega)
theorem sameInts_t (xs ys : List Int) (hx : xs.length ≤ 1000) : Tot (laws_sameInts xs ys) (fun r => xs = ys → r.1 = true) := by
  rw [laws_sameInts_eq]
  refine Tot.bif (fun hb => Tot.val fun e => by subst e; simp at hb) fun hb => ?_
  have h : xs.length = ys.length := len_of hb
  exact sameInts_l xs ys h hx xs.length 0 (by omega) (by omega)
theorem sameLog_l (xs ys : List impl_Entry) (h : xs.length = ys.length) (hx : xs.length ≤ 1000) : ∀ (j : Nat) (i : Int), i + j = xs.length → 0 ≤ i → Tot (laws_sameLog_4 xs ys i) (fun r => xs = ys → r.1 = true)
  | 0, i, hj, h0 => by rw [laws_sameLog_4_eq, cond_dec, if_neg (by omega)]; exact Tot.val fun _ => rfl
  | j + 1, i, hj, h0 => by
    rw [laws_sameLog_4_eq, cond_dec, if_pos (by omega), cond_dec, if_pos h0, cond_dec, if_pos (by omega), cond_dec, if_pos h0, cond_dec, if_pos (by omega), w64 (n := i + 1) (by omega) (by omega)]
    exact Tot.bif (fun hb => Tot.val fun e => by subst e; simp [eqI_dec, sEq_dec] at hb) fun _ => sameLog_l xs ys h hx j (i + 1) (by omega) (by omega)
theorem sameLog_t (xs ys : List impl_Entry) (hx : xs.length ≤ 1000) : Tot (laws_sameLog xs ys) (fun r => xs = ys → r.1 = true) := by
  rw [laws_sameLog_eq]
  refine Tot.bif (fun hb => Tot.val fun e => by subst e; simp at hb) fun hb => ?_
  have h : xs.length = ys.length := len_of hb
  exact sameLog_l xs ys h hx xs.length 0 (by omega) (by omega)
theorem sameAnswers_l (xs ys : List impl_Answer) (h : xs.length = ys.length) (hx : xs.length ≤ 1000) : ∀ (j : Nat) (i : Int), i + j = xs.length → 0 ≤ i → Tot (laws_sameAnswers_4 xs ys i) (fun r => xs = ys → r.1 = true)
  | 0, i, hj, h0 => by rw [laws_sameAnswers_4_eq, cond_dec, if_neg (by omega)]; exact Tot.val fun _ => rfl
  | j + 1, i, hj, h0 => by
    rw [laws_sameAnswers_4_eq, cond_dec, if_pos (by omega), cond_dec, if_pos h0, cond_dec, if_pos (by omega), cond_dec, if_pos h0, cond_dec, if_pos (by omega), w64 (n := i + 1) (by omega) (by omega)]
    exact Tot.bif (fun hb => Tot.val fun e => by subst e; simp [eqI_dec, sEq_dec] at hb) fun _ => sameAnswers_l xs ys h hx j (i + 1) (by omega) (by omega)
theorem sameAnswers_t (xs ys : List impl_Answer) (hx : xs.length ≤ 1000) : Tot (laws_sameAnswers xs ys) (fun r => xs = ys → r.1 = true) := by
  rw [laws_sameAnswers_eq]
  refine Tot.bif (fun hb => Tot.val fun e => by subst e; simp at hb) fun hb => ?_
  have h : xs.length = ys.length := len_of hb
  exact sameAnswers_l xs ys h hx xs.length 0 (by omega) (by omega)
theorem sameState_t (a b : impl_State) (h1 : a.Pairs.length ≤ 1000) (h2 : a.Known.length ≤ 1000) : Tot (laws_sameState a b) (fun r => a = b → r.1 = true) := by
  rw [laws_sameState_eq]
  refine Tot.bif (fun _ => (samePairs_t _ _ h1).bind fun q1 k1 => Tot.bif (fun _ => (sameSessions_t _ _ h2).bind fun q2 k2 => Tot.bif (fun _ => Tot.bif (fun _ => Tot.val fun e => ?_) fun hb => Tot.val fun e => ?_) fun hb => Tot.val fun e => ?_) fun hb => Tot.val fun e => ?_) fun hb => Tot.val fun e => ?_
  · subst e; simp [sEq_dec]
  · subst e; simp [beqS] at hb
  · rw [k2 (by rw [e])] at hb; cases hb
  · rw [k1 (by rw [e])] at hb; cases hb
  · subst e; simp [sEq_dec] at hb
theorem sameConfig_t (a b : impl_Config) (h : a.Members.length ≤ 1000) : Tot (laws_sameConfig a b) (fun r => a = b → r.1 = true) := by
  rw [laws_sameConfig_eq]
  refine Tot.bif (fun _ => (sameInts_t _ _ h).bind fun q k => Tot.bif (fun _ => Tot.val fun e => ?_) fun hb => Tot.val fun e => ?_) fun hb => Tot.val fun e => ?_
  · subst e; simp [beqS]
  · rw [k (by rw [e])] at hb; cases hb
  · subst e; simp at hb
theorem sameReplica_t (a b : impl_Replica) (h : a.Conf.Members.length ≤ 1000) (h2 : a.Log.length ≤ 1000) : Tot (laws_sameReplica a b) (fun r => a = b → r.1 = true) := by
  rw [laws_sameReplica_eq]
  refine (sameConfig_t _ _ h).bind fun q k => Tot.bif (fun _ => Tot.bif (fun _ => (sameLog_t _ _ h2).bind fun q2 k2 => Tot.val fun e => k2 (by rw [e])) fun hb => Tot.val fun e => ?_) fun hb => Tot.val fun e => ?_
  · subst e; simp [beqS] at hb
  · rw [k (by rw [e])] at hb; cases hb
theorem sameMessage_t (a b : impl_Message) (h : a.Conf.Members.length ≤ 1000) (h2 : a.Log.length ≤ 1000) : Tot (laws_sameMessage a b) (fun r => a = b → r.1 = true) := by
  rw [laws_sameMessage_eq]
  refine Tot.bif (fun _ => Tot.bif (fun _ => Tot.bif (fun _ => (sameConfig_t _ _ h).bind fun q k => Tot.bif (fun _ => (sameLog_t _ _ h2).bind fun q2 k2 => Tot.val fun e => k2 (by rw [e])) fun hb => Tot.val fun e => ?_) fun hb => Tot.val fun e => ?_) fun hb => Tot.val fun e => ?_) fun hb => Tot.val fun e => ?_
  · rw [k (by rw [e])] at hb; cases hb
  · subst e; simp at hb
  · subst e; simp at hb
  · subst e; simp at hb
theorem sameBag_l (xs ys : List impl_Message) (h : xs.length = ys.length) (hx : xs.length ≤ 1000) (hm : ∀ m ∈ xs, m.Conf.Members.length ≤ 1000 ∧ m.Log.length ≤ 1000) : ∀ (j : Nat) (i : Int), i + j = xs.length → 0 ≤ i → Tot (laws_sameBag_4 xs ys i) (fun r => xs = ys → r.1 = true)
  | 0, i, hj, h0 => by rw [laws_sameBag_4_eq, cond_dec, if_neg (by omega)]; exact Tot.val fun _ => rfl
  | j + 1, i, hj, h0 => by
    have hi : i < (xs.length : Int) := by omega
    have hy := hm _ (rd_mem (d := z_impl_Message) h0 hi)
    rw [laws_sameBag_4_eq, cond_dec, if_pos hi, cond_dec, if_pos h0, cond_dec, if_pos hi, cond_dec, if_pos h0, cond_dec, if_pos (by omega), w64 (n := i + 1) (by omega) (by omega), eta_Message, eta_Message]
    exact (sameMessage_t _ _ hy.1 hy.2).bind fun q k => Tot.bif (fun hb => Tot.val fun e => nope (k (by rw [e])) hb) fun _ => sameBag_l xs ys h hx hm j (i + 1) (by omega) (by omega)
theorem sameBag_t (xs ys : List impl_Message) (hx : xs.length ≤ 1000) (hm : ∀ m ∈ xs, m.Conf.Members.length ≤ 1000 ∧ m.Log.length ≤ 1000) : Tot (laws_sameBag xs ys) (fun r => xs = ys → r.1 = true) := by
  rw [laws_sameBag_eq]
  refine Tot.bif (fun hb => Tot.val fun e => by subst e; simp at hb) fun hb => ?_
  have h : xs.length = ys.length := len_of hb
  exact sameBag_l xs ys h hx hm xs.length 0 (by omega) (by omega)
theorem sameUp_l (a b : impl_Chain) (h : a.Up.length = b.Up.length) (hx : a.Up.length ≤ 1000) : ∀ (j : Nat) (i : Int), i + j = a.Up.length → 0 ≤ i → Tot (laws_sameChain_9 i a b) (fun r => a = b → r.1 = true)
  | 0, i, hj, h0 => by rw [laws_sameChain_9_eq, cond_dec, if_neg (by omega)]; exact Tot.val fun _ => rfl
  | j + 1, i, hj, h0 => by
    rw [laws_sameChain_9_eq, cond_dec, if_pos (by omega), cond_dec, if_pos h0, cond_dec, if_pos (by omega), cond_dec, if_pos h0, cond_dec, if_pos (by omega), w64 (n := i + 1) (by omega) (by omega)]
    exact Tot.bif (fun hb => Tot.val fun e => by subst e; simp [beqS] at hb) fun _ => sameUp_l a b h hx j (i + 1) (by omega) (by omega)
theorem sameNodes_l (a b : impl_Chain) (h : a.Nodes.length = b.Nodes.length) (hx : a.Nodes.length ≤ 1000) (hm : ∀ m ∈ a.Nodes, m.Conf.Members.length ≤ 1000 ∧ m.Log.length ≤ 1000) (hu : a.Up.length = b.Up.length) (hux : a.Up.length ≤ 1000) : ∀ (j : Nat) (i : Int), i + j = a.Nodes.length → 0 ≤ i → Tot (laws_sameChain_4 i a b) (fun r => a = b → r.1 = true)
  | 0, i, hj, h0 => by rw [laws_sameChain_4_eq, cond_dec, if_neg (by omega)]; exact sameUp_l a b hu hux a.Up.length 0 (by omega) (by omega)
  | j + 1, i, hj, h0 => by
    have hi : i < (a.Nodes.length : Int) := by omega
    have hy := hm _ (rd_mem (d := z_impl_Replica) h0 hi)
    rw [laws_sameChain_4_eq, cond_dec, if_pos hi, cond_dec, if_pos h0, cond_dec, if_pos hi, cond_dec, if_pos h0, cond_dec, if_pos (by omega), w64 (n := i + 1) (by omega) (by omega), eta_Replica, eta_Replica]
    exact (sameReplica_t _ _ hy.1 hy.2).bind fun q k => Tot.bif (fun hb => Tot.val fun e => nope (k (by rw [e])) hb) fun _ => sameNodes_l a b h hx hm hu hux j (i + 1) (by omega) (by omega)
structure ChSm (c : impl_Chain) : Prop where
  pairs : c.Base.Pairs.length ≤ 1000
  known : c.Base.Known.length ≤ 1000
  members : c.Conf.Members.length ≤ 1000
  nodes : c.Nodes.length ≤ 1000
  nodes2 : ∀ m ∈ c.Nodes, m.Conf.Members.length ≤ 1000 ∧ m.Log.length ≤ 1000
  up : c.Up.length ≤ 1000
  bag : c.Bag.length ≤ 1000
  bag2 : ∀ m ∈ c.Bag, m.Conf.Members.length ≤ 1000 ∧ m.Log.length ≤ 1000
  ans : c.Answers.length ≤ 1000
theorem ChOk.sm {c : impl_Chain} (h : ChOk c) : ChSm c := by
  have hp := pairsOk_le ((stateOk_iff _).1 h.base).2.1
  have hk := sessOk_len ((stateOk_iff _).1 h.base).2.2.1
  have hm := ((configOk_iff _).1 h.conf).n1
  have h5 := h.n5
  have u5 := h.u5
  have b := h.bag.1
  have a := h.ans.1
  exact ⟨by omega, by omega, by omega, by omega, fun m hm => by have := replicaOk_len (h.nodes m hm).1; omega, by omega, by omega, fun m hm => by have := messageOk_len (h.bag.2 m hm).1; omega, by omega⟩
theorem sameChain_t (a b : impl_Chain) (h : ChSm a) : Tot (laws_sameChain a b) (fun r => a = b → r.1 = true) := by
  rw [laws_sameChain_eq, eta_Chain, eta_Chain]
  refine (sameState_t _ _ h.pairs h.known).bind fun q1 k1 => Tot.bif (fun hb => Tot.val fun e => nope (k1 (by rw [e])) hb) fun _ => ?_
  refine (sameConfig_t _ _ h.members).bind fun q2 k2 => Tot.bif (fun hb => Tot.val fun e => nope (k2 (by rw [e])) hb) fun _ => ?_
  refine Tot.bif (fun hb => Tot.val fun e => by subst e; simp at hb) fun hn => Tot.bif (fun hb => Tot.val fun e => by subst e; simp at hb) fun hu => ?_
  refine (sameBag_t _ _ h.bag h.bag2).bind fun q3 k3 => Tot.bif (fun hb => Tot.val fun e => nope (k3 (by rw [e])) hb) fun _ => ?_
  refine (sameAnswers_t _ _ h.ans).bind fun q4 k4 => Tot.bif (fun hb => Tot.val fun e => nope (k4 (by rw [e])) hb) fun _ => ?_
  have hn : a.Nodes.length = b.Nodes.length := len_of hn
  have hu : a.Up.length = b.Up.length := len_of hu
  exact sameNodes_l a b hn h.nodes h.nodes2 hu h.up a.Nodes.length 0 (by omega) (by omega)
/-! ### New chains -/
theorem newChain6_i (M : List Int) (hM : M.length ≤ 1000) (s0 : impl_Chain) (s1 : impl_Config) (s3 : List impl_Pair) (s4 : List impl_Session) (s5 : List Int) (s6 : List impl_Replica) (s7 : List Bool) (s8 : List impl_Message) (s9 : List impl_Answer) (P : List impl_Pair) (K : List impl_Session) (M' : List Int) (hM' : M'.length ≤ 1000) (G : List impl_Message) (A : List impl_Answer) :
    ∀ (j : Nat) (i : Int) (s2 : impl_Chain) (N : List impl_Replica) (U : List Bool), i + j = 5 → 0 ≤ i → N.length = 5 → U.length ≤ i.toNat → Tot (impl_NewChain_6 M 5 i s0 s1 s2 s3 s4 s5 s6 s7 s8 s9 P K M' N U G A) (fun _ => True)
  | 0, i, s2, N, U, hj, h0, hN, hU => by rw [impl_NewChain_6_eq, cond_dec, if_neg (by omega)]; exact Tot.val trivial
  | j + 1, i, s2, N, U, hj, h0, hN, hU => by
    have ih := fun s2 N U => newChain6_i M hM s0 s1 s3 s4 s5 s6 s7 s8 s9 P K M' hM' G A j (i + 1) s2 N U (by omega) (by omega)
    rw [impl_NewChain_6_eq, cond_dec, if_pos (by omega), ble_row (by simp; omega) (by omega), cond_true, slices_Contains_f _ _ (by omega), Option.bind_some, copyConfig_i _ (by dsimp only; omega), w64 (n := i + 1) (by omega) (by omega), Option.bind_some, cond_dec]
    refine Tot.ite (fun _ => ?_) fun _ => ih _ _ _ hN (by simp; omega)
    rw [cond_dec, if_pos h0, cond_dec, if_pos (by omega)]
    exact ih _ _ _ (by simp [hN]) (by simp; omega)
theorem newChain_i (b : impl_State) (M : List Int) (hb : stateOk b = true) (hM : M.length ≤ 1000) : Tot (impl_NewChain b M) (fun _ => True) := by
  have hk := sessOk_len ((stateOk_iff _).1 hb).2.2.1
  have hp := pairsOk_le ((stateOk_iff _).1 hb).2.1
  rw [impl_NewChain_eq, impl_copyOf_int_eq, ble_row (by omega) (by omega), cond_true, Option.bind_some, impl_StateValid_f b (by omega), Option.bind_some, hb, impl_ConfigValid_f, Option.bind_some]
  refine Tot.bif (fun h => by cases h) fun _ => Tot.bif (fun _ => Tot.val trivial) fun _ => ?_
  rw [impl_copyState_f b (by omega) (by omega), Option.bind_some, cond_dec, if_pos (by omega)]
  exact newChain6_i M hM _ _ _ _ _ _ _ _ _ _ _ _ hM _ _ 5 0 _ _ _ (by omega) (by omega) (by simp) (by simp)
theorem honest_t (c : impl_Chain) (h : ChainIn c) : Tot (laws_honest c) (fun r => r.1 = true → ChOk c) := by
  rw [laws_honest_eq, eta_Chain, impl_ChainValid_f c h, Option.bind_some]
  refine Tot.bif (fun hk => ?_) fun _ => Tot.val fun h => by cases h
  have k := (chainOk_iff c).1 hk
  have hm := ((configOk_iff _).1 k.conf).n1
  exact (newChain_i c.Base c.Conf.Members k.base (by omega)).bind fun q _ => (sameChain_t c _ k.sm).bind fun q2 _ => Tot.val fun _ => k
theorem zChain_sm : ChSm zChain := ⟨by simp [zChain], by simp [zChain], by simp [zChain], by simp [zChain], fun m h => by simp [zChain] at h, by simp [zChain], by simp [zChain], fun m h => by simp [zChain] at h, by simp [zChain]⟩
theorem zChain_no : chainOk zChain = false := by rfl
theorem noChain_z : laws_noChain zChain = some (true, ()) := by
  obtain ⟨q, e, h⟩ := sameChain_t zChain zChain zChain_sm
  rw [laws_noChain_eq, eta_Chain, show impl_Chain.mk (impl_State.mk (impl_Interval.mk es es) [] [] false es) (impl_Config.mk 0 [] false) [] [] [] [] = zChain from rfl, e, Option.bind_some, h rfl]
/-! ### Plays that are drawn -/
theorem bent15_t {n : Int} {r : spec_l20Rd} (h : Rdr n r) (a b : impl_Event) : Tot (spec_l20Bent_15 r a b) (fun x => Rdr n x.2.1) := by rw [spec_l20Bent_15_eq]; exact Tot.val h
theorem node_t {n m : Int} {r : spec_l20Rd} (h : Rdr n r) (hn : n ≤ 500000000) (hm : m ≤ 1000000) : Tot (spec_l20Node r m) (fun x => Rdr (n + 2) x.2.1) := by
  rw [spec_l20Node_eq]
  refine (odd_t h (by omega) hm).bind fun o ho => Tot.bif (fun _ => (pick_t ho (by omega) (by omega)).bind fun x hx => ?_) fun _ => (pick_t ho (by omega) (by omega)).bind fun x hx => Tot.val (hx.2.up (by omega))
  have x1 := hx.1.2 (by omega)
  simp only [List.length_cons, List.length_nil]
  rw [cond_dec, if_pos hx.1.1, cond_dec, if_pos (by omega)]; exact Tot.val (hx.2.up (by omega))
theorem bent4_t {n m : Int} {r : spec_l20Rd} (h : Rdr n r) (hn : n ≤ 400000000) (hm : m ≤ 1000000) (a b : impl_Event) : Tot (spec_l20Bent_4 m r a b) (fun x => Rdr (n + 40) x.2.1) := by
  rw [spec_l20Bent_4_eq]
  refine (odd_t h (by omega) hm).bind fun o ho => Tot.bif (fun _ => (pick_t ho (by omega) (by omega)).bind fun x hx => ?_) fun _ => (bent15_t (ho.up (by omega)) _ _)
  simp only [cond_dec, List.length_cons, List.length_nil]
  refine Tot.ite (fun _ => (pick_t hx.2 (by omega) (by omega)).bind fun y hy => ?_) fun _ => Tot.ite (fun _ => (node_t hx.2 (by omega) (by omega)).bind fun y hy => bent15_t (hy.up (by omega)) _ _) fun _ => Tot.ite (fun _ => (pick_t hx.2 (by omega) (by omega)).bind fun y hy => ?_) fun _ => Tot.ite (fun _ => bent15_t (hx.2.up (by omega)) _ _) fun _ => (entry_t hx.2 (by omega) (by omega)).bind fun y hy => bent15_t (hy.up (by omega)) _ _
  · have y1 := hy.1.2 (by omega)
    rw [if_pos hy.1.1, if_pos (by omega)]; exact bent15_t (hy.2.up (by omega)) _ _
  · have y1 := hy.1.2 (by omega)
    rw [if_pos hy.1.1, if_pos (by omega)]; exact bent15_t (hy.2.up (by omega)) _ _
theorem bent_t {n m : Int} {r : spec_l20Rd} (h : Rdr n r) (hn : n ≤ 300000000) (hm : m ≤ 1000000) (c : impl_Chain) (hc : ChOk c) : Tot (spec_l20Bent r c m) (fun x => Rdr (n + 100) x.2.1) := by
  rw [spec_l20Bent_eq]
  refine Tot.bif (fun _ => (pick_t h (by omega) (by omega)).bind fun x hx => ?_) fun _ => (bent4_t h (by omega) hm _ _).mono fun x hx => hx.up (by omega)
  have x1 := hx.1.2 (by omega)
  have x0 := hx.1.1
  rw [w64 (n := 1 + x.1) (by omega) (by omega), eta_Chain]
  exact (event_t hx.2 (by omega) c hc _ (by omega)).bind fun y hy => (bent4_t hy.2 (by omega) hm _ _).mono fun x hx => hx.up (by omega)
theorem drawPlay9_t (c : impl_Chain) (h : ChainIn c) (s0 s1 : impl_Chain) (hs : impl_Chain.mk (impl_State.mk s1.Base.Span c.Base.Pairs c.Base.Known s1.Base.Sealed s1.Base.Cut) (impl_Config.mk s1.Conf.Epoch c.Conf.Members s1.Conf.Fresh) c.Nodes c.Up c.Bag c.Answers = c) (t3 : List impl_Pair) (t4 : List impl_Session) (t5 : List Int) (t6 : List impl_Replica) (t7 : List Bool) (t8 : List impl_Message) (t9 : List impl_Answer) :
    ∀ (j : Nat) (l : List impl_Event), l.length + j = 61 → Tot (spec_DrawChainPlay_9 s0 s1 l t3 t4 t5 t6 t7 t8 t9 c.Base.Pairs c.Base.Known c.Conf.Members c.Nodes c.Up c.Bag c.Answers) (fun x => ChainIn x.1.1 ∧ x.1.2.1.length ≤ 1000)
  | 0, l, hj => by rw [spec_DrawChainPlay_9_eq, cond_dec, if_neg (by omega), hs]; exact Tot.val ⟨h, by show l.length ≤ 1000; omega⟩
  | j + 1, l, hj => by
    rw [spec_DrawChainPlay_9_eq, cond_dec, if_pos (by omega), ble_row (by simp; omega) (by omega), cond_true]
    exact drawPlay9_t c h s0 s1 hs t3 t4 t5 t6 t7 t8 t9 j _ (by simp; omega)
theorem DrawChainPlay_t {l : List Int} (h : ∀ x ∈ l, 0 ≤ x ∧ x ≤ 255) : Tot (spec_DrawChainPlay l) (fun x => ChainIn x.1.1 ∧ x.1.2.1.length ≤ 1000) := by
  rw [spec_DrawChainPlay_eq]
  refine (spec_l20Open_t h).bind fun o ho => (pick_t ho (by omega) (by omega)).bind fun x hx => (pick_t hx.2 (by omega) (by omega)).bind fun y hy => (pick_t hy.2 (by omega) (by omega)).bind fun z hz => ?_
  have x1 := hx.1.2 (by omega)
  have x0 := hx.1.1
  have y1 := hy.1.2 (by omega)
  have y0 := hy.1.1
  have z1 := hz.1.2 (by omega)
  have z0 := hz.1.1
  have e2 : wrap64 (Int.tdiv z.1 2) = z.1 / 2 := by rw [Int.tdiv_eq_ediv_of_nonneg z0, w64 (by omega) (by omega)]
  have y2 : wrap64 (20 + y.1) = 20 + y.1 := w64 (by omega) (by omega)
  have pm : ∀ a b i : Int, i = 0 ∨ i = 1 → (0 ≤ a ∧ a ≤ 60) → (0 ≤ b ∧ b ≤ 60) → 0 ≤ rdAt [a, b] i.toNat 0 ∧ rdAt [a, b] i.toNat 0 ≤ 60 := by
    rintro a b i (rfl | rfl) ha hb
    · exact ha
    · exact hb
  have hpm := pm x.1 (20 + y.1) (z.1 / 2) (by omega) ⟨x0, by omega⟩ ⟨by omega, by omega⟩
  simp only [e2, y2, List.length_cons, List.length_nil]
  rw [cond_dec, if_pos (by omega), cond_dec, if_pos (by omega)]
  refine (play_t hz.2 (by omega) _ hpm).bind fun p hp => (pick_t hp.2 (by omega) (by omega)).bind fun u hu => ?_
  have hc := hp.1.1.inn
  have he := hp.1.2.1
  refine Tot.bif (fun _ => ?_) fun _ => Tot.val ⟨hc, by dsimp only; omega⟩
  refine (pick_t hu.2 (by omega) (by omega)).bind fun v hv => Tot.bif (fun _ => ?_) fun _ => Tot.bif (fun _ => ?_) fun _ => ?_
  · exact (chain_t hv.2 (by omega) (by omega)).bind fun w hw => Tot.val ⟨hw.1.inn, by dsimp only; omega⟩
  · rw [eta_Chain]
    refine (bent_t hv.2 (by omega) (by omega) _ hp.1.1).bind fun w hw => ?_
    rw [ble_row (by simp; omega) (by omega), cond_true]
    exact Tot.val ⟨hc, by simp; omega⟩
  · exact drawPlay9_t p.1.1 hc _ (shc p.1.1) rfl _ _ _ _ _ _ _ (61 - p.1.2.1.length) p.1.2.1 (by omega)
end Go.Proofs.YthkdkojfahaeaaaGreat.Ev
