/- A value after a number of answers: a Get that a safe chain answered told the value before it and after it. No condition. -/
import Derived.Test.YtoiafcghelgpdaaGreatPuDy
import Derived.Test.YtoiafcghelgpdaaGreatPuAl
set_option linter.unusedVariables false
set_option linter.unusedSimpArgs false
namespace Go.Proofs.YtoiafcghelgpdaaGreat.Ev
open Go.Proofs.YtoiafcghelgpdaaGreat.Eng
open Go.RowKit (wrap64)

/-! ### Replies and sessions -/
def repOf (s : impl_State) : List impl_Entry → List Int
  | [] => []
  | e :: l => (applyE s e).2 :: repOf (applyE s e).1 l
theorem runE_repOf : ∀ (l : List impl_Entry) (s : impl_State) (out : List Int), (runE l s out).2 = out ++ repOf s l
  | [], s, out => by simp [runE, repOf]
  | e :: l, s, out => by unfold runE repOf; rw [runE_repOf l]; simp
theorem repOf_at : ∀ (a b : List impl_Entry) (e : impl_Entry) (s : impl_State), rdAt (repOf s (a ++ e :: b)) a.length 0 = (applyE (endOf s a) e).2
  | [], b, e, s => rfl
  | x :: a, b, e, s => by
    have := repOf_at a b e (applyE s x).1
    exact this
def NoS (c q : Int) (l : List impl_Session) : Prop := ∀ y ∈ l, ¬ (y.Client = c ∧ y.Seq = q)
theorem sessPut_mem {l : List impl_Session} {s y : impl_Session} (h : y ∈ (sessPut l s).1) : y = s ∨ y ∈ l := by
  unfold sessPut at h
  have hin : ∀ n m : Nat, y ∈ l.take n ++ s :: l.drop m → y = s ∨ y ∈ l := fun n m h => by
    rcases List.mem_append.1 h with h | h
    · exact .inr (List.mem_of_mem_take h)
    · rcases List.mem_cons.1 h with h | h
      · exact .inl h
      · exact .inr (List.mem_of_mem_drop h)
  split at h
  · split at h
    · split at h
      · exact .inr h
      · exact hin _ _ h
    · exact hin _ _ h
  · cases h
theorem NoS_put {c q : Int} {l : List impl_Session} {s : impl_Session} (h : NoS c q l) (hs : ¬ (s.Client = c ∧ s.Seq = q)) : NoS c q (sessPut l s).1 := fun y hy => by
  rcases sessPut_mem hy with rfl | hy
  · exact hs
  · exact h y hy
theorem NoS_applyE {c q : Int} {s : impl_State} {e : impl_Entry} (h : NoS c q s.Known) (he : ¬ (e.Client = c ∧ e.Seq = q)) : NoS c q (applyE s e).1.Known := by
  unfold applyE
  split
  · split
    · exact h
    · split
      · exact h
      · split
        · exact h
        · unfold applyE1
          split <;> exact NoS_put h he
  · intro y hy; cases hy
theorem NoS_endOf {c q : Int} : ∀ (l : List impl_Entry) (s : impl_State), NoS c q s.Known → (∀ e ∈ l, ¬ (e.Client = c ∧ e.Seq = q)) → NoS c q (endOf s l).Known
  | [], s, h, he => h
  | e :: l, s, h, he => NoS_endOf l _ (NoS_applyE h (he e List.mem_cons_self)) fun x hx => he x (List.mem_cons_of_mem _ hx)
theorem shit_lt {c : Int} {l : List impl_Session} (h : shit c l = true) : splace c l < l.length ∧ (sessOf l c).Client = c ∧ sessOf l c ∈ l := by
  have h2 := h
  unfold shit at h
  rw [decide_eq_true_eq] at h
  rw [sessOf_hit h2]
  exact ⟨h.1, h.2, rd_mem (by omega) (by omega)⟩
theorem NoS_sess {c q : Int} {l : List impl_Session} (h : NoS c q l) (hq : q ≠ 0) : (sessOf l c).Seq ≠ q := by
  cases hs : shit c l with
  | true => have := shit_lt hs; exact fun e => h _ this.2.2 ⟨this.2.1, e⟩
  | false => rw [sessOf_no hs]; exact fun e => hq e.symm
theorem SessionSeq_f (l : List impl_Session) (c : Int) (h : sessOk l = true) (hc : 0 ≤ c ∧ c ≤ 3) : impl_SessionSeq l c = some ((sessOf l c).Seq, ()) := by
  have hl := sessOk_len h
  rw [impl_SessionSeq_eq, impl_SessionsValid_f l (by omega), h, Option.bind_some]
  simp only [cond_dec, Bool.not_true, cond_false]
  rw [if_neg (by omega), if_neg (by omega), impl_sessionPlace_f l c h, Option.bind_some]
  cases hs : shit c l with
  | true =>
    have := shit_lt hs
    dsimp only
    rw [Bool.not_true, cond_false, if_pos (by omega), if_pos (by omega), sessOf_hit hs]
  | false => rw [Bool.not_false, cond_true, sessOf_no hs]
theorem NoS_base {c q : Int} {l : List impl_Session} (h : sessOk l = true) (h0 : (sessOf l c).Seq = 0) : NoS c q l := by
  obtain ⟨ha, hp⟩ := (sessOk_iff l).1 h
  rcases sess_split c l hp with ⟨A, B, y, rfl, y0, h1, h2⟩ | ⟨A, B, rfl, h1, h2⟩
  · have hs := (shit_app y0 h1 h2).2
    have hm := (shit_lt hs).2.2
    have := ((sessItem_iff _).1 (ha _ hm)).2.1
    omega
  · intro y hy hyc
    rcases List.mem_append.1 hy with hy | hy
    · have := h1 y hy; omega
    · have := h2 y hy; omega

/-! ### Safe chains -/
theorem slicesEq_t (a b : List impl_Entry) (ha : a.length ≤ 1000) : ∀ (j : Nat) (i : Int), i + j = a.length → 0 ≤ i → a.length = b.length → Tot (slices_Equal_Entry_Entry_4 a b (a.length : Int) i) (fun _ => True)
  | 0, i, hj, h0, hl => by rw [slices_Equal_Entry_Entry_4_eq, cond_dec, if_neg (by omega)]; exact Tot.val trivial
  | j + 1, i, hj, h0, hl => by
    rw [slices_Equal_Entry_Entry_4_eq]
    simp only [cond_dec]
    rw [if_pos (by omega), if_pos h0, if_pos (by omega), if_pos h0, if_pos (by omega), w64 (n := i + 1) (by omega) (by omega)]
    exact Tot.bif (fun _ => Tot.val trivial) fun _ => slicesEq_t a b ha j (i + 1) (by omega) (by omega) hl
theorem prefixOf_t (a b : List impl_Entry) (ha : a.length ≤ 1000) : Tot (impl_PrefixOf a b) (fun _ => True) := by
  rw [impl_PrefixOf_eq]
  simp only [cond_dec]
  refine Tot.ite (fun hl => ?_) fun _ => Tot.val trivial
  rw [if_pos (by omega), if_pos (by omega), slices_Equal_Entry_Entry_eq]
  have hc := cutList_len a 0 b.length
  refine Tot.bind (Q := fun _ => True) (Tot.bif (fun _ => Tot.val trivial) fun e => ?_) fun _ _ => Tot.val trivial
  have el : (cutList a 0 (b.length : Int)).length = b.length := by
    rw [cut_pre _ _ (by omega)]; simp; omega
  exact slicesEq_t _ b (by omega) b.length 0 (by omega) (by omega) el
theorem implComplete_t (c : impl_Config) (h : CfgOk c) : Tot (impl_CompleteMembers c) (fun x => x.1.length ≤ 4 ∧ ∀ y ∈ x.1, 0 ≤ y ∧ y ≤ 4) := by
  have n1 := h.n1
  have n0 := h.n0
  rw [impl_CompleteMembers_eq, impl_ConfigValid_f, (configOk_iff c).2 h, Option.bind_some]
  simp only [Bool.not_true, cond_false, cond_dec]
  refine Tot.bif (fun _ => ?_) fun _ => ?_
  · rw [w64 (n := (c.Members.length : Int) - 1) (by omega) (by omega), if_pos (by omega), if_pos (by omega), impl_copyOf_int_eq, cut_pre _ _ (by omega), ble_row (by simp; omega) (by omega), cond_true]
    exact Tot.val ⟨by simp; omega, fun y hy => h.nodes y (List.mem_of_mem_take hy)⟩
  · rw [impl_copyOf_int_eq, ble_row (by omega) (by omega), cond_true]
    exact Tot.val ⟨n1, h.nodes⟩
theorem safe20_t (A : List impl_Answer) (q : List Int) (ha : A.length ≤ 24) (hq : q.length = A.length) : ∀ (j : Nat) (i : Int), i + j = A.length → 0 ≤ i → Tot (impl_ChainSafe_20 A (A.length : Int) i q) (fun x => x.1 = true → ∀ k : Int, i ≤ k → k < A.length → (rdAt A k.toNat z_impl_Answer).Reply = rdAt q k.toNat 0)
  | 0, i, hj, h0 => by rw [impl_ChainSafe_20_eq, cond_dec, if_neg (by omega)]; exact Tot.val fun _ k h1 h2 => by omega
  | j + 1, i, hj, h0 => by
    rw [impl_ChainSafe_20_eq]
    simp only [cond_dec]
    rw [if_pos (by omega), if_pos h0, if_pos (by omega), if_pos h0, if_pos (by omega), w64 (n := i + 1) (by omega) (by omega)]
    refine Tot.bif (fun _ => Tot.val fun h => by cases h) fun e => (safe20_t A q ha hq j (i + 1) (by omega) (by omega)).mono fun x hx ht k h1 h2 => ?_
    by_cases hk : k = i
    · simpa [hk] using e
    · exact hx ht k (by omega) h2
def RepOk (c : impl_Chain) : Prop := ∀ k : Int, 0 ≤ k → k < c.Answers.length → (rdAt c.Answers k.toNat z_impl_Answer).Reply = rdAt (repOf c.Base (asked c.Answers)) k.toNat 0
theorem asked_ok {c : impl_Chain} (h : ChOk c) : entriesOk (asked c.Answers) = true := by
  refine (entriesOk_iff _).2 ⟨by have := h.ans.1; simp [asked]; omega, fun e he => ?_⟩
  obtain ⟨a, ha, rfl⟩ := List.mem_map.1 he
  have := h.ans.2 a ha
  simp only [answerOk, Bool.and_eq_true] at this
  exact this.1
section
variable (c : impl_Chain) (h : ChOk c) (M : List Int) (hM : M.length ≤ 4) (hm : ∀ y ∈ M, 0 ≤ y ∧ y ≤ 4)
include h hM hm
theorem safe6_t : ∀ (j : Nat) (i : Int), i + j = M.length → 0 ≤ i → Tot (impl_ChainSafe_6 (M.length : Int) i c (asked c.Answers) M) (fun x => x.1 = true → RepOk c)
  | 0, i, hj, h0 => by
    have ha := h.ans.1
    have hs := sessOk_len ((stateOk_iff _).1 h.base).2.2.1
    rw [impl_ChainSafe_6_eq, cond_dec, if_neg (by omega), impl_Replay_f _ _ (by omega), Option.bind_some]
    have e : (replayR c.Base (asked c.Answers)).2 = repOf c.Base (asked c.Answers) := by
      unfold replayR; rw [if_pos ⟨h.base, asked_ok h⟩, runE_repOf]; rfl
    dsimp only
    rw [e]
    refine (safe20_t c.Answers _ ha ?_ c.Answers.length 0 (by omega) (by omega)).mono fun x hx ht k h1 h2 => hx ht k h1 h2
    rw [← e, (replayR_rep h.base (asked_ok h)).1]; simp [asked]
  | j + 1, i, hj, h0 => by
    have n5 := h.n5
    have hi := hm _ (rd_mem (d := 0) h0 (show i < (M.length : Int) by omega))
    have hlog : ∀ k : Int, 0 ≤ k → k ≤ 4 → (rdAt c.Nodes k.toNat z_impl_Replica).Log.length ≤ 1000 := fun k k0 k1 => by
      have := (replicaOk_len (h.nodes _ (rd_mem (d := z_impl_Replica) k0 (show k < (c.Nodes.length : Int) by omega))).1).2
      omega
    rw [impl_ChainSafe_6_eq]
    simp only [cond_dec]
    rw [if_pos (by omega), if_pos h0, if_pos (by omega), if_pos hi.1, if_pos (by omega), w64 (n := i + 1) (by omega) (by omega)]
    refine Tot.bif (fun _ => Tot.val fun h => by cases h) fun _ => (prefixOf_t _ _ (hlog _ hi.1 hi.2)).bind fun r _ => Tot.bif (fun _ => Tot.val fun h => by cases h) fun _ => ?_
    rw [if_pos (by omega), if_pos (by omega)]
    have hcut : cutList M (i + 1) (M.length : Int) = M.drop (i + 1).toNat := by
      have := cut_all M (i + 1).toNat
      rwa [show (((i + 1).toNat : Nat) : Int) = i + 1 by omega] at this
    rw [hcut]
    have s12 : ∀ (X : List Int) (r : impl_Replica), X.length ≤ 4 → (∀ y ∈ X, 0 ≤ y ∧ y ≤ 4) → r.Log.length ≤ 1000 → ∀ (a : Nat) (b : Int), b + a = X.length → 0 ≤ b → Tot (impl_ChainSafe_12 (M.length : Int) i X (X.length : Int) b c (asked c.Answers) r M) (fun x => x.1 = true → RepOk c) := by
      intro X r hX hy hr a
      induction a with
      | zero =>
        intro b hb b0
        rw [impl_ChainSafe_12_eq, cond_dec, if_neg (by omega), w64 (n := i + 1) (by omega) (by omega)]
        exact safe6_t j (i + 1) (by omega) (by omega)
      | succ a ih =>
        intro b hb b0
        have hx := hy _ (rd_mem (d := 0) b0 (show b < (X.length : Int) by omega))
        rw [impl_ChainSafe_12_eq]
        simp only [cond_dec]
        rw [if_pos (by omega), if_pos b0, if_pos (by omega), if_pos hx.1, if_pos (by omega), w64 (n := b + 1) (by omega) (by omega)]
        exact (prefixOf_t _ _ hr).bind fun q _ => Tot.bif (fun _ => Tot.val fun h => by cases h) fun _ => ih (b + 1) (by omega) (by omega)
    exact s12 (M.drop (i + 1).toNat) _ (by simp; omega) (fun y hy => hm y (List.mem_of_mem_drop hy)) (hlog _ hi.1 hi.2) (M.drop (i + 1).toNat).length 0 (by omega) (by omega)
end
theorem ChainSafe_t (c : impl_Chain) (hc : ChainIn c) : Tot (impl_ChainSafe c) (fun x => x.1 = true → ChOk c ∧ RepOk c) := by
  rw [impl_ChainSafe_eq, eta_Chain, impl_ChainValid_f c hc, Option.bind_some]
  cases h : chainOk c with
  | false => exact Tot.val fun h => by cases h
  | true =>
    have hk := (chainOk_iff c).1 h
    rw [Bool.not_true, cond_false, impl_askedOf_f _ (by have := hk.ans.1; omega), Option.bind_some]
    exact (implComplete_t c.Conf ((configOk_iff _).1 hk.conf)).bind fun M hM => (safe6_t c hk M.1 hM.1 hM.2 M.1.length 0 (by omega) (by omega)).mono fun x hx ht => ⟨hk, hx ht⟩

/-! ### What a Get tells -/
theorem value_end {c : impl_Chain} (h : ChOk c) (n : Nat) (hn : n ≤ c.Answers.length) (k : ByteArray) : valueAtR c n k = pairGet (endOf c.Base (asked (c.Answers.take n))).Pairs k := by
  have e : stateAtR c n = (endOf c.Base (asked (c.Answers.take n)), true) := by
    unfold stateAtR
    rw [if_pos ⟨(chainOk_iff c).2 h, by omega, by omega⟩]
    have ho : entriesOk (asked (c.Answers.take (n : Int).toNat)) = true := by
      obtain ⟨a, b⟩ := (entriesOk_iff _).1 (asked_ok h)
      refine (entriesOk_iff _).2 ⟨by have := h.ans.1; simp [asked]; omega, fun e he => ?_⟩
      obtain ⟨x, hx, rfl⟩ := List.mem_map.1 he
      exact b _ (List.mem_map_of_mem (List.mem_of_mem_take hx))
    unfold replayR
    rw [if_pos ⟨h.base, ho⟩, runE_end]; rfl
  unfold valueAtR
  rw [e]; rfl
theorem get_tells {c : impl_Chain} (h : ChOk c) (hr : RepOk c) (m : Nat) (hm : m < c.Answers.length) (a : impl_Answer) (ha : rdAt c.Answers m z_impl_Answer = a) (hk : a.Asked.Cmd.Kind = 1) (h3 : a.Reply ≠ -3) (h4 : a.Reply ≠ -4)
    (h0 : (sessOf c.Base.Known a.Asked.Client).Seq = 0) (hu : ∀ j : Nat, j < c.Answers.length → j ≠ m → ¬ ((rdAt c.Answers j z_impl_Answer).Asked.Client = a.Asked.Client ∧ (rdAt c.Answers j z_impl_Answer).Asked.Seq = a.Asked.Seq)) :
    valueAtR c ((m + 1 : Nat) : Int) a.Asked.Cmd.Key = a.Reply ∧ valueAtR c (m : Int) a.Asked.Cmd.Key = a.Reply := by
  have hget : c.Answers[m]? = some a := by
    unfold rdAt at ha
    rw [List.getD_eq_getElem?_getD, List.getElem?_eq_getElem hm] at ha
    rw [List.getElem?_eq_getElem hm]; exact congrArg some ha
  obtain ⟨hm', hga⟩ := List.getElem?_eq_some_iff.1 hget
  have hd : c.Answers.drop m = a :: c.Answers.drop (m + 1) := by rw [List.drop_eq_getElem_cons hm, hga]
  have hall : asked c.Answers = asked (c.Answers.take m) ++ a.Asked :: asked (c.Answers.drop (m + 1)) := by
    have e := congrArg asked (List.take_append_drop m c.Answers)
    rw [hd] at e
    rw [← e]; unfold asked; rw [List.map_append, List.map_cons]
  have htk : asked (c.Answers.take (m + 1)) = asked (c.Answers.take m) ++ [a.Asked] := by
    unfold asked
    rw [List.take_add_one, hget, List.map_append]; rfl
  have hlen : (asked (c.Answers.take m)).length = m := by simp [asked]; omega
  have hrep := hr m (by omega) (by omega)
  rw [show ((m : Nat) : Int).toNat = m by omega, ha, hall] at hrep
  have hat := repOf_at (asked (c.Answers.take m)) (asked (c.Answers.drop (m + 1))) a.Asked c.Base
  rw [hlen] at hat
  rw [hat] at hrep
  have hen := (entriesOk_iff _).1 (asked_ok h)
  have hao : entryOk a.Asked = true := hen.2 _ (by rw [hall]; simp)
  have hsok : stateOk (endOf c.Base (asked (c.Answers.take m))) = true := endOf_ok _ _ h.base fun e he => hen.2 e (by rw [hall]; exact List.mem_append_left _ he)
  have hq := (entryOk_says hao).2.1
  have hno : NoS a.Asked.Client a.Asked.Seq (endOf c.Base (asked (c.Answers.take m))).Known := by
    refine NoS_endOf _ _ (NoS_base ((stateOk_iff _).1 h.base).2.2.1 h0) fun e he => ?_
    obtain ⟨x, hx, rfl⟩ := List.mem_map.1 he
    obtain ⟨j, hj, hjx⟩ := List.getElem_of_mem hx
    rw [List.length_take] at hj
    have hu' := hu j (by omega) (by omega)
    have : rdAt c.Answers j z_impl_Answer = x := by
      unfold rdAt
      rw [List.getD_eq_getElem?_getD, List.getElem?_eq_getElem (by omega)]
      rw [List.getElem_take] at hjx; exact hjx
    rwa [this] at hu'
  have hseq := NoS_sess hno (by omega)
  rw [value_end h (m + 1) (by omega), value_end h m (by omega), htk, endOf_app]
  generalize endOf c.Base (asked (c.Answers.take m)) = s at *
  have hap : applyE s a.Asked = applyE1 s a.Asked := by
    have hrep' := hrep
    unfold applyE at hrep' ⊢
    rw [if_pos ⟨hsok, hao⟩, if_neg hseq] at hrep' ⊢
    by_cases hl : a.Asked.Seq < (sessOf s.Known a.Asked.Client).Seq
    · rw [if_pos hl] at hrep'; exact absurd hrep' h4
    · rw [if_neg hl] at hrep' ⊢
      by_cases ht : s.Sealed = true ∨ takes s a.Asked.Cmd = false
      · rw [if_pos ht] at hrep'; exact absurd hrep' h3
      · rw [if_neg ht]
  rw [hap] at hrep
  have hco := (entryOk_says hao).2.2
  have hpk := ((stateOk_iff _).1 hsok).2.1
  have h1 : applyC s.Pairs a.Asked.Cmd = (s.Pairs, pairGet s.Pairs a.Asked.Cmd.Key) := by
    unfold applyC
    simp [hk, hpk, hco]
  have hp : (applyE1 s a.Asked) = (impl_State.mk s.Span s.Pairs (sessPut s.Known ⟨a.Asked.Client, a.Asked.Seq, pairGet s.Pairs a.Asked.Cmd.Key⟩).1 s.Sealed s.Cut, pairGet s.Pairs a.Asked.Cmd.Key) := by
    unfold applyE1; rw [if_neg (by omega), h1]
  rw [hp] at hrep
  show pairGet (applyE s a.Asked).1.Pairs _ = _ ∧ _
  rw [hap, hp]
  exact ⟨hrep.symm, hrep.symm⟩

/-! ### The law -/
section
variable (c : impl_Chain) (h : ChOk c) (hr : RepOk c) (m : Nat) (hm : m < c.Answers.length) (a : impl_Answer) (ha : rdAt c.Answers m z_impl_Answer = a) (hk : a.Asked.Cmd.Kind = 1) (h3 : a.Reply ≠ -3) (h4 : a.Reply ≠ -4) (h0 : (sessOf c.Base.Known a.Asked.Client).Seq = 0)
include h hr hm ha hk h3 h4 h0
theorem law13 (s0 : impl_Chain) (hs : impl_Chain.mk (impl_State.mk s0.Base.Span c.Base.Pairs c.Base.Known s0.Base.Sealed s0.Base.Cut) (impl_Config.mk s0.Conf.Epoch c.Conf.Members s0.Conf.Fresh) c.Nodes c.Up c.Bag c.Answers = c) :
    ∀ (j : Nat) (i : Int), i + j = c.Answers.length → 0 ≤ i → (∀ t : Nat, (t : Int) < i → t ≠ m → ¬ ((rdAt c.Answers t z_impl_Answer).Asked.Client = a.Asked.Client ∧ (rdAt c.Answers t z_impl_Answer).Asked.Seq = a.Asked.Seq)) → laws_FnValueAt_13 ((m + 1 : Nat) : Int) i s0 a c.Base.Pairs c.Base.Known c.Conf.Members c.Nodes c.Up c.Bag c.Answers = some (true, ())
  | 0, i, hj, hi, hu => by
    have hl := h.ans.1
    have hc := h.inn
    obtain ⟨v1, v2⟩ := get_tells h hr m hm a ha hk h3 h4 h0 fun t ht htm => hu t (by omega) htm
    rw [laws_FnValueAt_13_eq, hs, w64 (n := ((m + 1 : Nat) : Int) - 1) (by omega) (by omega), show ((m + 1 : Nat) : Int) - 1 = (m : Int) by omega]
    simp only [cond_dec]
    rw [if_neg (by omega), impl_ValueAt_f c _ _ hc, Option.bind_some, impl_ValueAt_f c _ _ hc, Option.bind_some, v1, v2, if_pos rfl, decide_eq_true rfl]
  | j + 1, i, hj, hi, hu => by
    have hl := h.ans.1
    have ih : (¬ i = (m : Int) → ¬ ((rdAt c.Answers i.toNat z_impl_Answer).Asked.Client = a.Asked.Client ∧ (rdAt c.Answers i.toNat z_impl_Answer).Asked.Seq = a.Asked.Seq)) → laws_FnValueAt_13 ((m + 1 : Nat) : Int) (i + 1) s0 a c.Base.Pairs c.Base.Known c.Conf.Members c.Nodes c.Up c.Bag c.Answers = some (true, ()) := fun hn => by
      refine law13 s0 hs j (i + 1) (by omega) (by omega) fun t ht htm => ?_
      by_cases e : (t : Int) = i
      · have := hn (by omega); rwa [show i.toNat = t by omega] at this
      · exact hu t (by omega) htm
    rw [laws_FnValueAt_13_eq, hs, w64 (n := ((m + 1 : Nat) : Int) - 1) (by omega) (by omega), show ((m + 1 : Nat) : Int) - 1 = (m : Int) by omega, w64 (n := i + 1) (by omega) (by omega), alive_f]
    simp only [cond_dec]
    rw [if_pos (by omega), if_pos hi, if_pos (by omega)]
    by_cases e : i = (m : Int)
    · rw [decide_eq_true e, Bool.not_true, cond_false]; exact ih fun h => absurd e h
    · rw [decide_eq_false e, Bool.not_false, cond_true]
      by_cases ec : (rdAt c.Answers i.toNat z_impl_Answer).Asked.Client = a.Asked.Client
      · rw [if_pos ec]
        by_cases es : (rdAt c.Answers i.toNat z_impl_Answer).Asked.Seq = a.Asked.Seq
        · rw [if_pos es, if_pos hi, if_pos (by omega)]; rfl
        · rw [if_neg es, if_pos hi, if_pos (by omega)]; exact ih fun _ h => es h.2
      · rw [if_neg ec]; exact ih fun _ h => ec h.1
end
theorem law (a0 : List Int) (h0 : Bnd (.sl (.int .u8)) a0) : laws_FnValueAt a0 = some (true, ()) := by
  have hb : ∀ x ∈ a0, 0 ≤ x ∧ x ≤ 255 := fun x hx => wf8 (h0.2 x hx)
  rw [laws_FnValueAt_eq, cond_dec]
  by_cases hk : 1048576 < (a0.length : Int)
  · rw [if_pos hk]
  rw [if_neg hk]
  obtain ⟨x, e, hx⟩ := DrawValueAt_t hb
  rw [e, Option.bind_some]
  generalize x.1.1 = c at *
  generalize x.1.2.1 = n at *
  generalize x.1.2.2.1 = k at *
  have hc := hx.inn
  have ha := hx.ans
  obtain ⟨y, es, hsafe⟩ := ChainSafe_t c hc
  rw [eta_Chain, impl_ValueAt_f c n k hc, Option.bind_some, spec_ValueAt_f c n k hc, Option.bind_some, decide_eq_true rfl, Bool.not_true, cond_false, es, Option.bind_some, alive_f]
  cases hy : y.1 with
  | false => rfl
  | true =>
    obtain ⟨hok, hrep⟩ := hsafe hy
    rw [Bool.not_true, cond_false]
    simp only [cond_dec]
    by_cases n1 : n < 1
    · rw [if_pos n1]; rfl
    · rw [if_neg n1]
      by_cases n2 : (c.Answers.length : Int) < n
      · rw [if_pos n2]; rfl
      · rw [if_neg n2, w64 (n := n - 1) (by omega) (by omega), if_pos (by omega), if_pos (by omega)]
        generalize hga : rdAt c.Answers (n - 1).toNat z_impl_Answer = a
        by_cases g1 : a.Asked.Cmd.Kind = 1
        · rw [decide_eq_true g1, Bool.not_true, cond_false]
          by_cases g3 : a.Reply = -3
          · rw [if_pos g3]; rfl
          · rw [if_neg g3]
            by_cases g4 : a.Reply = -4
            · rw [if_pos g4]; rfl
            · have hm : a ∈ c.Answers := by rw [← hga]; exact rd_mem (by omega) (by omega)
              have hao := hok.ans.2 a hm
              simp only [answerOk, Bool.and_eq_true] at hao
              rw [if_neg g4, SessionSeq_f _ _ ((stateOk_iff _).1 hok.base).2.2.1 (entryOk_says hao.1).1, Option.bind_some]
              by_cases g0 : (sessOf c.Base.Known a.Asked.Client).Seq = 0
              · rw [decide_eq_true g0, Bool.not_true, cond_false]
                have := law13 c hok hrep (n - 1).toNat (by omega) a hga g1 g3 g4 g0 (sk c) rfl c.Answers.length 0 (by omega) (by omega) fun t ht => by omega
                rw [show (((n - 1).toNat + 1 : Nat) : Int) = n by omega] at this
                exact this
              · rw [decide_eq_false g0]; rfl
        · rw [decide_eq_false g1]; rfl
end Go.Proofs.YtoiafcghelgpdaaGreat.Ev
