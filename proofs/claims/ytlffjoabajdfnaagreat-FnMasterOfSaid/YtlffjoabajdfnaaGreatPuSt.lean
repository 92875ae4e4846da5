/- Steps of a chain, as the specification makes them: they return, and valid chains stay valid. No condition. -/
import Derived.Test.YtlffjoabajdfnaaGreatPuVa
import Derived.Test.YtlffjoabajdfnaaGreatPuDv
set_option linter.unusedVariables false
set_option linter.unusedSimpArgs false
namespace Go.Proofs.YtlffjoabajdfnaaGreat.Ev
open Go.Proofs.YtlffjoabajdfnaaGreat.Eng
open Go.RowKit (wrap64)
/-! ### What is valid, part by part -/
theorem memFrom_iff : ∀ (l pre : List Int), memFrom pre l = true ↔ l.Nodup ∧ (∀ x ∈ l, 0 ≤ x ∧ x ≤ 4) ∧ ∀ x ∈ l, x ∉ pre
  | [], pre => by simp [memFrom]
  | y :: l, pre => by
    simp only [memFrom, Bool.and_eq_true, Bool.not_eq_true', decide_eq_true_eq, decide_eq_false_iff_not, memFrom_iff l (pre ++ [y]), List.nodup_cons, List.forall_mem_cons]
    constructor
    · rintro ⟨⟨h1, h2⟩, h3, h4, h5⟩
      exact ⟨⟨fun h => h5 y h (by simp), h3⟩, ⟨h1, h4⟩, h2, fun x hx h => h5 x hx (List.mem_append_left _ h)⟩
    · rintro ⟨⟨h1, h2⟩, ⟨h3, h4⟩, h5, h6⟩
      refine ⟨⟨h3, h5⟩, h2, h4, fun x hx h => ?_⟩
      rcases List.mem_append.1 h with h | h
      · exact h6 x hx h
      · rw [List.mem_singleton.1 h] at hx; exact h1 hx
structure CfgOk (c : impl_Config) : Prop where
  e0 : 1 ≤ c.Epoch
  e1 : c.Epoch ≤ 60
  n0 : 1 ≤ c.Members.length
  n1 : c.Members.length ≤ 4
  fresh : c.Fresh = true → 2 ≤ c.Members.length
  nodup : c.Members.Nodup
  nodes : ∀ x ∈ c.Members, 0 ≤ x ∧ x ≤ 4
theorem configOk_iff (c : impl_Config) : configOk c = true ↔ CfgOk c := by
  simp only [configOk, Bool.and_eq_true, decide_eq_true_eq, Bool.or_eq_true, Bool.not_eq_true', memFrom_iff]
  constructor
  · rintro ⟨⟨⟨h1, h2⟩, h3⟩, h4, h5, _⟩
    exact ⟨h1.1, h1.2, h2.1, h2.2, fun h => h3.resolve_left (by rw [h]; simp), h4, h5⟩
  · rintro ⟨h1, h2, h3, h4, h5, h6, h7⟩
    refine ⟨⟨⟨⟨h1, h2⟩, h3, h4⟩, ?_⟩, h6, h7, fun x _ h => by cases h⟩
    cases h : c.Fresh with
    | false => exact .inl rfl
    | true => exact .inr (h5 h)
theorem entriesOk_iff (l : List impl_Entry) : entriesOk l = true ↔ l.length ≤ 24 ∧ ∀ e ∈ l, entryOk e = true := by
  simp only [entriesOk, Bool.and_eq_true, decide_eq_true_eq, List.all_eq_true]
theorem noConf_len {c : impl_Config} (h : noConf c = true) : c.Members.length = 0 ∧ c.Epoch = 0 := by
  simp only [noConf, Bool.and_eq_true, decide_eq_true_eq] at h; exact ⟨h.1.2, h.1.1⟩
theorem replicaOk_iff (r : impl_Replica) : replicaOk r = true ↔ (noConf r.Conf = true ∧ r.Ready = false ∧ r.Log.length = 0) ∨ (noConf r.Conf = false ∧ configOk r.Conf = true ∧ entriesOk r.Log = true ∧ (r.Ready = true ∨ r.Log.length = 0)) := by
  unfold replicaOk
  cases h : noConf r.Conf <;> simp [and_assoc]
theorem cfg_conf {c : impl_Config} (h : configOk c = true) : noConf c = false := by
  cases e : noConf c with
  | false => rfl
  | true => have := ((configOk_iff c).1 h).e0; have := (noConf_len e).2; omega
theorem replicaOk_mk {c : impl_Config} {b : Bool} {l : List impl_Entry} (h1 : configOk c = true) (h2 : entriesOk l = true) (h3 : b = true ∨ l.length = 0) : replicaOk ⟨c, b, l⟩ = true :=
  (replicaOk_iff _).2 (.inr ⟨cfg_conf h1, h1, h2, h3⟩)
theorem replicaOk_len {r : impl_Replica} (h : replicaOk r = true) : r.Conf.Members.length ≤ 4 ∧ r.Log.length ≤ 24 := by
  rcases (replicaOk_iff r).1 h with ⟨h1, _, h2⟩ | ⟨_, h1, h2, _⟩
  · have := (noConf_len h1).1; omega
  · exact ⟨((configOk_iff _).1 h1).n1, entriesOk_len h2⟩
theorem replicaOk_ready {r : impl_Replica} (h : replicaOk r = true) (hr : r.Ready = true) : configOk r.Conf = true ∧ entriesOk r.Log = true := by
  rcases (replicaOk_iff r).1 h with ⟨_, h1, _⟩ | ⟨_, h1, h2, _⟩
  · rw [h1] at hr; cases hr
  · exact ⟨h1, h2⟩
theorem messageOk_len {m : impl_Message} (h : messageOk m = true) : m.Conf.Members.length ≤ 4 ∧ m.Log.length ≤ 24 := by
  unfold messageOk at h
  rw [Bool.and_eq_true] at h
  have h := h.2
  split at h
  · simp only [Bool.and_eq_true, decide_eq_true_eq] at h
    exact ⟨((configOk_iff _).1 h.1.1.2).n1, by omega⟩
  · split at h
    · simp only [Bool.and_eq_true, decide_eq_true_eq] at h
      exact ⟨by have := (noConf_len h.1.2).1; omega, entriesOk_len h.2⟩
    · split at h
      · simp only [Bool.and_eq_true, decide_eq_true_eq] at h
        exact ⟨by have := (noConf_len h.1.2).1; omega, by omega⟩
      · cases h
def NodesOk (e : Int) (l : List impl_Replica) : Prop := ∀ r ∈ l, replicaOk r = true ∧ r.Conf.Epoch ≤ e
def BagOk (e : Int) (l : List impl_Message) : Prop := l.length ≤ 10 ∧ ∀ m ∈ l, messageOk m = true ∧ m.Epoch ≤ e
structure ChOk (c : impl_Chain) : Prop where
  base : stateOk c.Base = true
  conf : configOk c.Conf = true
  n5 : c.Nodes.length = 5
  u5 : c.Up.length = 5
  nodes : NodesOk c.Conf.Epoch c.Nodes
  bag : BagOk c.Conf.Epoch c.Bag
  ans : c.Answers.length ≤ 24 ∧ ∀ a ∈ c.Answers, answerOk a = true
theorem chainOk_iff (c : impl_Chain) : chainOk c = true ↔ ChOk c := by
  simp only [chainOk, bagOk, bagUpto, answersOk, nodeOk, Bool.and_eq_true, decide_eq_true_eq, List.all_eq_true]
  constructor
  · rintro ⟨⟨⟨⟨⟨⟨⟨h1, h2⟩, h3⟩, h4⟩, h5⟩, h6⟩, h7⟩, h8⟩
    exact ⟨h1, h2, h3, h4, h6, ⟨h5.1, fun m hm => ⟨h5.2 m hm, h7 m hm⟩⟩, h8⟩
  · rintro ⟨h1, h2, h3, h4, h5, h6, h7⟩
    exact ⟨⟨⟨⟨⟨⟨⟨h1, h2⟩, h3⟩, h4⟩, h6.1, fun m hm => (h6.2 m hm).1⟩, h5⟩, fun m hm => (h6.2 m hm).2⟩, h7⟩
theorem BagOk.bag {e : Int} {l : List impl_Message} (h : BagOk e l) : bagOk l = true := by
  simp only [bagOk, Bool.and_eq_true, decide_eq_true_eq, List.all_eq_true]; exact ⟨h.1, fun m hm => (h.2 m hm).1⟩
theorem ChOk.inn {c : impl_Chain} (h : ChOk c) : ChainIn c :=
  ⟨by have := sessOk_len ((stateOk_iff _).1 h.base).2.2.1; omega, fun r hr => by have := (replicaOk_len (h.nodes r hr).1).2; omega, fun m hm => by have := (messageOk_len (h.bag.2 m hm).1).2; omega⟩
/-! ### Copies -/
theorem l16Copy_f (c : impl_Config) (h : c.Members.length ≤ 1000) : spec_l16Copy c = some (c, ()) := by
  rw [spec_l16Copy_eq, ble_row (by simp; omega) (by omega)]; rfl
theorem l17Copy_f (r : impl_Replica) (h : r.Conf.Members.length ≤ 1000) (h2 : r.Log.length ≤ 1000) : spec_l17Copy r = some (r, ()) := by
  rw [spec_l17Copy_eq, l16Copy_f _ h, Option.bind_some, ble_row (by simp; omega) (by omega)]; rfl
theorem l18Copy_f (m : impl_Message) (h : m.Conf.Members.length ≤ 1000) (h2 : m.Log.length ≤ 1000) : spec_l18Copy m = some (m, ()) := by
  rw [spec_l18Copy_eq, l16Copy_f _ h, Option.bind_some, ble_row (by simp; omega) (by omega)]; rfl
def keep {α : Type} (n : Int) : Int → List α → List α
  | _, [] => []
  | i, y :: ys => if i = n then keep n (i + 1) ys else y :: keep n (i + 1) ys
theorem keep_mem {α : Type} {n : Int} : ∀ (ys : List α) (i : Int) (x : α), x ∈ keep n i ys → x ∈ ys
  | [], i, x, h => h
  | y :: ys, i, x, h => by
    unfold keep at h
    split at h
    · exact List.mem_cons_of_mem _ (keep_mem ys _ x h)
    · rcases List.mem_cons.1 h with h | h
      · exact h ▸ List.mem_cons_self
      · exact List.mem_cons_of_mem _ (keep_mem ys _ x h)
theorem keep_len {α : Type} {n : Int} : ∀ (ys : List α) (i : Int), (keep n i ys).length ≤ ys.length
  | [], i => Nat.le_refl _
  | y :: ys, i => by
    have := keep_len (n := n) ys (i + 1)
    unfold keep
    split <;> simp only [List.length_cons] <;> omega
theorem keep_all {α : Type} {n : Int} : ∀ (ys : List α) (i : Int), n < i → keep n i ys = ys
  | [], i, _ => rfl
  | y :: ys, i, h => by unfold keep; rw [if_neg (by omega), keep_all ys (i + 1) (by omega)]
theorem l18Bag_l (xs : List impl_Message) (n : Int) (hx : xs.length ≤ 10) (hm : ∀ m ∈ xs, messageOk m = true) : ∀ (ys : List impl_Message) (i : Int) (out : List impl_Message), 0 ≤ i → i ≤ xs.length → xs.drop i.toNat = ys → out.length ≤ i.toNat → spec_l18Bag_3 xs n i out = some (out ++ keep n i ys, ())
  | [], i, out, h0, h1, hd, ho => by
    have := drop_nil h0 h1 hd
    rw [spec_l18Bag_3_eq, cond_dec, if_neg (by omega)]; simp [keep]
  | y :: ys, i, out, h0, h1, hd, ho => by
    obtain ⟨hr, hl, hd'⟩ := rd_drop (d := z_impl_Message) h0 hd
    have hy := messageOk_len (hm y (by rw [← hr]; exact rd_mem h0 hl))
    rw [spec_l18Bag_3_eq]
    simp only [cond_dec, if_pos hl, if_pos h0, hr, eta_Message, w64 (n := i + 1) (by omega) (by omega), l18Copy_f y (by omega) (by omega), Option.bind_some]
    unfold keep
    by_cases e : i = n
    · rw [decide_eq_true e, if_pos e, Bool.not_true, cond_false, l18Bag_l xs n hx hm ys (i + 1) out (by omega) (by omega) hd' (by omega)]
    · rw [decide_eq_false e, if_neg e, Bool.not_false, cond_true, ble_row (by simp; omega) (by omega), cond_true, l18Bag_l xs n hx hm ys (i + 1) _ (by omega) (by omega) hd' (by simp; omega)]
      simp
theorem l18Bag_f (xs : List impl_Message) (n : Int) (h : bagOk xs = true) : spec_l18Bag xs n = some (keep n 0 xs, ()) := by
  simp only [bagOk, Bool.and_eq_true, decide_eq_true_eq, List.all_eq_true] at h
  rw [spec_l18Bag_eq, l18Bag_l xs n h.1 h.2 xs 0 [] (by omega) (by omega) rfl (by simp)]; rfl
theorem l18Bag_all (xs : List impl_Message) (h : bagOk xs = true) : spec_l18Bag xs (-1) = some (xs, ()) := by
  rw [l18Bag_f xs (-1) h, keep_all xs 0 (by omega)]
theorem l19Copy_l (c : impl_Chain) (h5 : c.Nodes.length = 5) (hn : ∀ r ∈ c.Nodes, replicaOk r = true) (s1 : impl_Chain) (s3 : List impl_Pair) (s4 : List impl_Session) (s5 : List Int) (s6 : List impl_Replica) (s7 : List Bool) (s8 : List impl_Message) (s9 : List impl_Answer) (P : List impl_Pair) (K : List impl_Session) (M : List Int) (U : List Bool) (B : List impl_Message) (A : List impl_Answer) :
    ∀ (ys : List impl_Replica) (i : Int) (s2 : impl_Chain) (out : List impl_Replica), 0 ≤ i → i ≤ c.Nodes.length → c.Nodes.drop i.toNat = ys → out.length ≤ i.toNat →
    spec_l19Copy_3 i c s1 s2 s3 s4 s5 s6 s7 s8 s9 P K M out U B A = some (impl_Chain.mk (impl_State.mk s2.Base.Span P K s2.Base.Sealed s2.Base.Cut) (impl_Config.mk s2.Conf.Epoch M s2.Conf.Fresh) (out ++ ys) U B A, ())
  | [], i, s2, out, h0, h1, hd, ho => by
    have := drop_nil h0 h1 hd
    rw [spec_l19Copy_3_eq, cond_dec, if_neg (by omega), List.append_nil]
  | y :: ys, i, s2, out, h0, h1, hd, ho => by
    obtain ⟨hr, hl, hd'⟩ := rd_drop (d := z_impl_Replica) h0 hd
    have hy := replicaOk_len (hn y (by rw [← hr]; exact rd_mem h0 hl))
    rw [spec_l19Copy_3_eq]
    simp only [cond_dec, if_pos hl, if_pos h0, hr, eta_Replica, w64 (n := i + 1) (by omega) (by omega), l17Copy_f y (by omega) (by omega), Option.bind_some]
    rw [ble_row (by simp; omega) (by omega), cond_true, l19Copy_l c h5 hn s1 s3 s4 s5 s6 s7 s8 s9 P K M U B A ys (i + 1) _ _ (by omega) (by omega) hd' (by simp; omega)]
    simp
theorem l19Copy_f (c : impl_Chain) (h : ChOk c) : spec_l19Copy c = some (c, ()) := by
  have hp := pairsOk_le ((stateOk_iff _).1 h.base).2.1
  have hk := sessOk_len ((stateOk_iff _).1 h.base).2.2.1
  have hm := ((configOk_iff _).1 h.conf).n1
  have hu := h.u5
  have ha := h.ans.1
  rw [spec_l19Copy_eq, spec_l10Copy_f c.Base (by omega) (by omega), Option.bind_some, l16Copy_f _ (by omega), Option.bind_some, ble_row (by simp; omega) (by omega), cond_true, l18Bag_all _ h.bag.bag, Option.bind_some, ble_row (by simp; omega) (by omega), cond_true,
    eta_Chain, l19Copy_l c h.n5 (fun r hr => (h.nodes r hr).1) _ _ _ _ _ _ _ _ _ _ _ _ _ _ c.Nodes 0 _ [] (by omega) (by omega) rfl (by simp)]
  rfl
end Go.Proofs.YtlffjoabajdfnaaGreat.Ev
