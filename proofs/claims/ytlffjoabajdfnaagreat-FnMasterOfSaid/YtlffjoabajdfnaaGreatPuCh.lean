/- Configurations, replicas, messages, chains: which are valid. No condition. -/
import Derived.Test.YtlffjoabajdfnaaGreatPuRe
set_option linter.unusedVariables false
set_option linter.unusedSimpArgs false
namespace Go.Proofs.YtlffjoabajdfnaaGreat.Ev
open Go.Proofs.YtlffjoabajdfnaaGreat.Eng
open Go.RowKit (wrap64)
/-! ### Numbers in a row -/
theorem slices_Index_l (xs : List Int) (n : Int) (hx : xs.length ≤ 1000000000000) : ∀ (ys : List Int) (i : Int), 0 ≤ i → i ≤ xs.length → xs.drop i.toNat = ys → ∃ r, slices_Index_sint_int_2 xs n (xs.length : Int) i = some (r, ()) ∧ (0 ≤ r ↔ n ∈ ys)
  | [], i, h0, h1, hd => by
    have := drop_nil h0 h1 hd
    rw [slices_Index_sint_int_2_eq, cond_dec, if_neg (by omega)]; exact ⟨-1, rfl, by simp⟩
  | y :: ys, i, h0, h1, hd => by
    obtain ⟨hr, hl, hd'⟩ := rd_drop (d := (0 : Int)) h0 hd
    rw [slices_Index_sint_int_2_eq]
    simp only [cond_dec, if_pos hl, if_pos h0, hr]
    by_cases e : n = y
    · rw [if_pos e]; exact ⟨i, rfl, by simp [e]; omega⟩
    · rw [if_neg e, w64 (n := i + 1) (by omega) (by omega)]
      obtain ⟨r, h, hr'⟩ := slices_Index_l xs n hx ys (i + 1) (by omega) (by omega) hd'
      exact ⟨r, h, by rw [hr']; simp [e]⟩
theorem slices_Contains_f (xs : List Int) (n : Int) (hx : xs.length ≤ 1000000000000) : slices_Contains_sint_int xs n = some (decide (n ∈ xs), ()) := by
  obtain ⟨r, h, hr⟩ := slices_Index_l xs n hx xs 0 (by omega) (by omega) rfl
  rw [slices_Contains_sint_int_eq, slices_Index_sint_int_eq, h, Option.bind_some, decide_eq_decide.2 hr]
def memFrom : List Int → List Int → Bool
  | _, [] => true
  | pre, n :: l => decide (0 ≤ n ∧ n ≤ 4) && !decide (n ∈ pre) && memFrom (pre ++ [n]) l
def configOk (c : impl_Config) : Bool := decide (1 ≤ c.Epoch ∧ c.Epoch ≤ 60) && decide (1 ≤ c.Members.length ∧ c.Members.length ≤ 4) && (!c.Fresh || decide (2 ≤ c.Members.length)) && memFrom [] c.Members
theorem take_next {α : Type} {xs : List α} {i : Int} {y : α} {ys : List α} (h0 : 0 ≤ i) (h : xs.drop i.toNat = y :: ys) : xs.take (i + 1).toNat = xs.take i.toNat ++ [y] := by
  rw [show (i + 1).toNat = i.toNat + 1 by omega]; exact take_at h
theorem cut_pre {α : Type} (xs : List α) (i : Int) (h : 0 ≤ i) : cutList xs 0 i = xs.take i.toNat := by unfold cutList; simp
theorem impl_ConfigValid_l (c : impl_Config) (hx : c.Members.length ≤ 4) : ∀ (ys : List Int) (i : Int), 0 ≤ i → i ≤ c.Members.length → c.Members.drop i.toNat = ys → impl_ConfigValid_5 c.Members (c.Members.length : Int) i c = some (memFrom (c.Members.take i.toNat) ys, ())
  | [], i, h0, h1, hd => by
    have := drop_nil h0 h1 hd
    rw [impl_ConfigValid_5_eq, cond_dec, if_neg (by omega)]; rfl
  | y :: ys, i, h0, h1, hd => by
    obtain ⟨hr, hl, hd'⟩ := rd_drop (d := (0 : Int)) h0 hd
    have ih := impl_ConfigValid_l c hx ys (i + 1) (by omega) (by omega) hd'
    rw [impl_ConfigValid_5_eq]
    simp only [cond_dec, if_pos hl, if_pos h0, hr, impl_nodeValid_f, Option.bind_some, if_pos (show i ≤ (c.Members.length : Int) by omega), cut_pre _ i h0, w64 (n := i + 1) (by omega) (by omega), ih, slices_Contains_f (c.Members.take i.toNat) y (by simp; omega), memFrom, take_next h0 hd]
    by_cases e : 0 ≤ y ∧ y ≤ 4
    · rw [decide_eq_true e]
      by_cases e2 : y ∈ c.Members.take i.toNat
      · rw [if_pos e2, decide_eq_true e2]; rfl
      · rw [if_neg e2, decide_eq_false e2]; rfl
    · rw [decide_eq_false e]; rfl
theorem impl_ConfigValid_f (c : impl_Config) : impl_ConfigValid c = some (configOk c, ()) := by
  rw [impl_ConfigValid_eq]
  simp only [cond_dec]
  unfold configOk
  by_cases h1 : c.Epoch < 1
  · rw [if_pos h1, decide_eq_false (p := 1 ≤ c.Epoch ∧ c.Epoch ≤ 60) (by omega)]; rfl
  · rw [if_neg h1]
    by_cases h2 : 60 < c.Epoch
    · rw [if_pos h2, decide_eq_false (p := 1 ≤ c.Epoch ∧ c.Epoch ≤ 60) (by omega)]; rfl
    · rw [if_neg h2, decide_eq_true (p := 1 ≤ c.Epoch ∧ c.Epoch ≤ 60) (by omega)]
      by_cases h3 : (c.Members.length : Int) < 1
      · rw [if_pos h3, decide_eq_false (p := 1 ≤ c.Members.length ∧ c.Members.length ≤ 4) (by omega)]; rfl
      · rw [if_neg h3]
        by_cases h4 : 4 < (c.Members.length : Int)
        · rw [if_pos h4, decide_eq_false (p := 1 ≤ c.Members.length ∧ c.Members.length ≤ 4) (by omega)]; rfl
        · rw [if_neg h4, decide_eq_true (p := 1 ≤ c.Members.length ∧ c.Members.length ≤ 4) (by omega), impl_ConfigValid_l c (by omega) c.Members 0 (by omega) (by omega) rfl]
          cases c.Fresh with
          | false => rfl
          | true =>
            by_cases h5 : (c.Members.length : Int) < 2
            · rw [cond_true, if_pos h5, decide_eq_false (p := 2 ≤ c.Members.length) (by omega)]; rfl
            · rw [cond_true, if_neg h5, decide_eq_true (p := 2 ≤ c.Members.length) (by omega)]; rfl
theorem rd_take {α : Type} {d : α} (xs : List α) (i j : Nat) (h : j < i) : rdAt (xs.take i) j d = rdAt xs j d := by
  simp only [rdAt, List.getD_eq_getElem?_getD, List.getElem?_take, if_pos h]
theorem spec_ConfigValid_i (c : impl_Config) (hx : c.Members.length ≤ 4) (i : Int) (hi0 : 0 ≤ i) (hi : i < c.Members.length) : ∀ (zs : List Int) (j : Int), 0 ≤ j → j ≤ i → (c.Members.take i.toNat).drop j.toNat = zs → spec_ConfigValid_9 i j c = if rdAt c.Members i.toNat 0 ∈ zs then some (false, ()) else spec_ConfigValid_4 (i + 1) c
  | [], j, h0, h1, hd => by
    have := drop_nil h0 (by rw [List.length_take]; omega) hd
    rw [List.length_take] at this
    rw [spec_ConfigValid_9_eq, cond_dec, if_neg (by omega), w64 (n := i + 1) (by omega) (by omega), if_neg (by simp)]
  | z :: zs, j, h0, h1, hd => by
    obtain ⟨hr, hl, hd'⟩ := rd_drop (d := (0 : Int)) h0 hd
    rw [List.length_take] at hl
    rw [rd_take _ _ _ (by omega)] at hr
    have ih := spec_ConfigValid_i c hx i hi0 hi zs (j + 1) (by omega) (by omega) hd'
    rw [spec_ConfigValid_9_eq]
    simp only [cond_dec, if_pos (show j < i by omega), if_pos h0, if_pos (show j < (c.Members.length : Int) by omega), if_pos hi0, if_pos hi, hr, w64 (n := j + 1) (by omega) (by omega), ih]
    by_cases e : z = rdAt c.Members i.toNat 0
    · rw [if_pos e, if_pos (by rw [e]; exact List.mem_cons_self)]
    · rw [if_neg e]
      by_cases e2 : rdAt c.Members i.toNat 0 ∈ zs
      · rw [if_pos e2, if_pos (List.mem_cons_of_mem _ e2)]
      · rw [if_neg e2, if_neg (fun h => (List.mem_cons.1 h).elim (fun h => e h.symm) e2)]
theorem spec_ConfigValid_l (c : impl_Config) (hx : c.Members.length ≤ 4) : ∀ (ys : List Int) (i : Int), 0 ≤ i → i ≤ c.Members.length → c.Members.drop i.toNat = ys → spec_ConfigValid_4 i c = some (memFrom (c.Members.take i.toNat) ys, ())
  | [], i, h0, h1, hd => by
    have := drop_nil h0 h1 hd
    rw [spec_ConfigValid_4_eq, cond_dec, if_neg (by omega)]; rfl
  | y :: ys, i, h0, h1, hd => by
    obtain ⟨hr, hl, hd'⟩ := rd_drop (d := (0 : Int)) h0 hd
    have ih := spec_ConfigValid_l c hx ys (i + 1) (by omega) (by omega) hd'
    have hj := spec_ConfigValid_i c hx i h0 hl (c.Members.take i.toNat) 0 (by omega) h0 rfl
    rw [spec_ConfigValid_4_eq]
    simp only [cond_dec, if_pos hl, if_pos h0, hr, spec_l1In_f, Option.bind_some, hj, ih, memFrom, take_next h0 hd]
    by_cases e : 0 ≤ y ∧ y ≤ 4
    · rw [decide_eq_true e]
      by_cases e2 : y ∈ c.Members.take i.toNat
      · rw [if_pos e2, decide_eq_true e2]; rfl
      · rw [if_neg e2, decide_eq_false e2]; rfl
    · rw [decide_eq_false e]; rfl
theorem spec_ConfigValid_f (c : impl_Config) : spec_ConfigValid c = some (configOk c, ()) := by
  rw [spec_ConfigValid_eq]
  simp only [cond_dec, spec_l1In_f, Option.bind_some]
  unfold configOk
  by_cases h1 : 1 ≤ c.Epoch ∧ c.Epoch ≤ 60
  · rw [decide_eq_true h1]
    by_cases h3 : 1 ≤ (c.Members.length : Int) ∧ (c.Members.length : Int) ≤ 4
    · rw [decide_eq_true h3, decide_eq_true (p := 1 ≤ c.Members.length ∧ c.Members.length ≤ 4) (by omega), spec_ConfigValid_l c (by omega) c.Members 0 (by omega) (by omega) rfl]
      cases c.Fresh with
      | false => rfl
      | true =>
        by_cases h5 : (c.Members.length : Int) < 2
        · rw [cond_true, if_pos h5, decide_eq_false (p := 2 ≤ c.Members.length) (by omega)]; rfl
        · rw [cond_true, if_neg h5, decide_eq_true (p := 2 ≤ c.Members.length) (by omega)]; rfl
    · rw [decide_eq_false h3, decide_eq_false (p := 1 ≤ c.Members.length ∧ c.Members.length ≤ 4) (by omega)]; rfl
  · rw [decide_eq_false h1]; rfl
/-! ### Replicas, messages -/
def noConf (c : impl_Config) : Bool := decide (c.Epoch = 0) && decide (c.Members.length = 0) && !c.Fresh
theorem impl_noConfig_f (c : impl_Config) : impl_noConfig c = some (noConf c, ()) := by
  rw [impl_noConfig_eq]
  simp only [cond_dec]
  unfold noConf
  by_cases h1 : c.Epoch = 0
  · by_cases h2 : c.Members.length = 0
    · rw [if_pos h1, if_pos (by omega), decide_eq_true h1, decide_eq_true h2]; rfl
    · rw [if_pos h1, if_neg (by omega), decide_eq_false h2]; simp
  · rw [if_neg h1, decide_eq_false h1]; rfl
theorem spec_l17None_f (c : impl_Config) : spec_l17None c = some (noConf c, ()) := by
  rw [spec_l17None_eq]
  simp only [cond_dec]
  unfold noConf
  by_cases h1 : c.Epoch = 0
  · by_cases h2 : c.Members.length = 0
    · rw [if_pos h1, if_pos (by omega), decide_eq_true h1, decide_eq_true h2]; rfl
    · rw [if_pos h1, if_neg (by omega), decide_eq_false h2]; simp
  · rw [if_neg h1, decide_eq_false h1]; rfl
def replicaOk (r : impl_Replica) : Bool := if noConf r.Conf = true then !r.Ready && decide (r.Log.length = 0) else configOk r.Conf && entriesOk r.Log && (r.Ready || decide (r.Log.length = 0))
theorem len0 {α : Type} (l : List α) : decide ((l.length : Int) = 0) = decide (l.length = 0) := by rw [decide_eq_decide]; omega
theorem impl_ReplicaValid_f (r : impl_Replica) : impl_ReplicaValid r = some (replicaOk r, ()) := by
  rw [impl_ReplicaValid_eq, impl_noConfig_f, Option.bind_some]
  simp only [impl_ConfigValid_f, impl_entriesValid_f, Option.bind_some, len0]
  unfold replicaOk
  cases noConf r.Conf <;> cases configOk r.Conf <;> cases entriesOk r.Log <;> cases r.Ready <;> simp
theorem spec_ReplicaValid_f (r : impl_Replica) (h : r.Log.length ≤ 1000000000000) : spec_ReplicaValid r = some (replicaOk r, ()) := by
  rw [spec_ReplicaValid_eq, spec_l17None_f, Option.bind_some]
  simp only [spec_ConfigValid_f, spec_l10Log_f _ h, Option.bind_some, len0]
  unfold replicaOk
  cases noConf r.Conf <;> cases configOk r.Conf <;> cases entriesOk r.Log <;> cases r.Ready <;> simp
def messageOk (m : impl_Message) : Bool := decide (1 ≤ m.Epoch ∧ m.Epoch ≤ 60) &&
  (if m.Kind = 1 then decide (0 ≤ m.To ∧ m.To ≤ 4) && configOk m.Conf && decide (m.Conf.Epoch = m.Epoch) && decide (m.Log.length = 0) else
   if m.Kind = 2 then decide (0 ≤ m.To ∧ m.To ≤ 4) && noConf m.Conf && entriesOk m.Log else
   if m.Kind = 3 then decide (m.To = -1) && noConf m.Conf && decide (m.Log.length = 0) else false)
theorem configOk_epoch {c : impl_Config} (h : configOk c = true) : 1 ≤ c.Epoch ∧ c.Epoch ≤ 60 := by
  simp only [configOk, Bool.and_eq_true, decide_eq_true_eq] at h; exact h.1.1.1
theorem impl_MessageValid_f (m : impl_Message) : impl_MessageValid m = some (messageOk m, ()) := by
  rw [impl_MessageValid_eq]
  simp only [cond_dec, impl_nodeValid_f, impl_ConfigValid_f, impl_noConfig_f, impl_entriesValid_f, Option.bind_some, len0]
  unfold messageOk
  by_cases h1 : m.Epoch < 1
  · rw [if_pos h1, decide_eq_false (p := 1 ≤ m.Epoch ∧ m.Epoch ≤ 60) (by omega)]; rfl
  · rw [if_neg h1]
    by_cases h2 : 60 < m.Epoch
    · rw [if_pos h2, decide_eq_false (p := 1 ≤ m.Epoch ∧ m.Epoch ≤ 60) (by omega)]; rfl
    · rw [if_neg h2, decide_eq_true (p := 1 ≤ m.Epoch ∧ m.Epoch ≤ 60) (by omega), Bool.true_and]
      by_cases k1 : m.Kind = 1
      · rw [if_pos k1, if_pos k1]
        by_cases t : 0 ≤ m.To ∧ m.To ≤ 4 <;> cases configOk m.Conf <;> by_cases e : m.Conf.Epoch = m.Epoch <;> simp [t, e]
      · rw [if_neg k1, if_neg k1]
        by_cases k2 : m.Kind = 2
        · rw [if_pos k2, if_pos k2]
          by_cases t : 0 ≤ m.To ∧ m.To ≤ 4 <;> cases noConf m.Conf <;> simp [t]
        · rw [if_neg k2, if_neg k2]
          by_cases k3 : m.Kind = 3
          · rw [if_pos k3, if_pos k3]
            by_cases t : m.To = -1 <;> cases noConf m.Conf <;> simp [t]
          · rw [if_neg k3, if_neg k3]
theorem spec_MessageValid_f (m : impl_Message) (h : m.Log.length ≤ 1000000000000) : spec_MessageValid m = some (messageOk m, ()) := by
  rw [spec_MessageValid_eq]
  simp only [cond_dec, spec_l1In_f, spec_ConfigValid_f, spec_l17None_f, spec_l10Log_f _ h, Option.bind_some, len0]
  unfold messageOk
  by_cases k1 : m.Kind = 1
  · rw [if_pos k1, if_pos k1]
    cases hc : configOk m.Conf with
    | false => by_cases t : 0 ≤ m.To ∧ m.To ≤ 4 <;> simp [t]
    | true =>
      have he := configOk_epoch hc
      by_cases t : 0 ≤ m.To ∧ m.To ≤ 4
      · by_cases e : m.Conf.Epoch = m.Epoch
        · rw [decide_eq_true (p := 1 ≤ m.Epoch ∧ m.Epoch ≤ 60) (by omega)]; simp [t, e]
        · simp [t, e]
      · simp [t]
  · rw [if_neg k1, if_neg k1]
    by_cases k2 : m.Kind = 2
    · rw [if_pos k2, if_pos k2]
      by_cases t : 0 ≤ m.To ∧ m.To ≤ 4 <;> by_cases q : 1 ≤ m.Epoch ∧ m.Epoch ≤ 60 <;> cases noConf m.Conf <;> simp [t, q]
    · rw [if_neg k2, if_neg k2]
      by_cases k3 : m.Kind = 3
      · rw [if_pos k3, if_pos k3]
        by_cases t : m.To = -1 <;> by_cases q : 1 ≤ m.Epoch ∧ m.Epoch ≤ 60 <;> cases noConf m.Conf <;> simp [t, q]
      · rw [if_neg k3, if_neg k3]; simp
theorem eta_Message (m : impl_Message) : impl_Message.mk m.Kind m.To m.Epoch m.Conf m.Log = m := rfl
theorem eta_Replica (m : impl_Replica) : impl_Replica.mk m.Conf m.Ready m.Log = m := rfl
theorem eta_Chain (c : impl_Chain) : impl_Chain.mk c.Base c.Conf c.Nodes c.Up c.Bag c.Answers = c := rfl
def bagOk (l : List impl_Message) : Bool := decide (l.length ≤ 10) && l.all messageOk
theorem impl_BagValid_l (xs : List impl_Message) (hx : xs.length ≤ 10) : ∀ (ys : List impl_Message) (i : Int), 0 ≤ i → i ≤ xs.length → xs.drop i.toNat = ys → impl_BagValid_4 xs (xs.length : Int) i = some (ys.all messageOk, ())
  | [], i, h0, h1, hd => by
    have := drop_nil h0 h1 hd
    rw [impl_BagValid_4_eq, cond_dec, if_neg (by omega)]; rfl
  | y :: ys, i, h0, h1, hd => by
    obtain ⟨hr, hl, hd'⟩ := rd_drop (d := z_impl_Message) h0 hd
    rw [impl_BagValid_4_eq]
    simp only [cond_dec, if_pos hl, if_pos h0, hr, eta_Message, w64 (n := i + 1) (by omega) (by omega), impl_MessageValid_f, Option.bind_some, impl_BagValid_l xs hx ys (i + 1) (by omega) (by omega) hd', List.all_cons]
    cases messageOk y <;> rfl
theorem impl_BagValid_f (xs : List impl_Message) : impl_BagValid xs = some (bagOk xs, ()) := by
  rw [impl_BagValid_eq, cond_dec]
  unfold bagOk
  by_cases h : 10 < (xs.length : Int)
  · rw [if_pos h, decide_eq_false (by omega)]; rfl
  · rw [if_neg h, decide_eq_true (by omega), impl_BagValid_l xs (by omega) xs 0 (by omega) (by omega) rfl]; rfl
theorem spec_BagValid_l (xs : List impl_Message) (hx : ∀ m ∈ xs, m.Log.length ≤ 1000000000000) : ∀ (ys : List impl_Message) (i : Int), 0 ≤ i → i ≤ xs.length → i ≤ 10 → xs.drop i.toNat = ys → spec_BagValid_2 xs i = some (decide (xs.length ≤ 10) && ys.all messageOk, ())
  | [], i, h0, h1, h24, hd => by
    have := drop_nil h0 h1 hd
    rw [spec_BagValid_2_eq, cond_dec, if_neg (by omega), decide_eq_true (by omega)]; rfl
  | y :: ys, i, h0, h1, h24, hd => by
    obtain ⟨hr, hl, hd'⟩ := rd_drop (d := z_impl_Message) h0 hd
    have hm : y.Log.length ≤ 1000000000000 := by rw [← hr]; exact hx _ (rd_mem h0 hl)
    rw [spec_BagValid_2_eq]
    simp only [cond_dec, if_pos hl, if_pos h0, hr, eta_Message]
    by_cases h : 10 ≤ i
    · rw [if_pos h, decide_eq_false (by omega)]; rfl
    · rw [if_neg h, w64 (n := i + 1) (by omega) (by omega), spec_MessageValid_f y hm, Option.bind_some, spec_BagValid_l xs hx ys (i + 1) (by omega) (by omega) (by omega) hd', List.all_cons]
      cases messageOk y <;> simp
theorem spec_BagValid_f (xs : List impl_Message) (hx : ∀ m ∈ xs, m.Log.length ≤ 1000000000000) : spec_BagValid xs = some (bagOk xs, ()) := by
  rw [spec_BagValid_eq, spec_BagValid_l xs hx xs 0 (by omega) (by omega) (by omega) rfl]; rfl
/-! ### Chains -/
def answerOk (a : impl_Answer) : Bool := entryOk a.Asked && decide (-4 ≤ a.Reply ∧ a.Reply ≤ 999)
def answersOk (l : List impl_Answer) : Bool := decide (l.length ≤ 24) && l.all answerOk
theorem impl_answersValid_l (xs : List impl_Answer) (hx : xs.length ≤ 24) : ∀ (ys : List impl_Answer) (i : Int), 0 ≤ i → i ≤ xs.length → xs.drop i.toNat = ys → impl_answersValid_4 xs (xs.length : Int) i = some (ys.all answerOk, ())
  | [], i, h0, h1, hd => by
    have := drop_nil h0 h1 hd
    rw [impl_answersValid_4_eq, cond_dec, if_neg (by omega)]; rfl
  | y :: ys, i, h0, h1, hd => by
    obtain ⟨hr, hl, hd'⟩ := rd_drop (d := z_impl_Answer) h0 hd
    rw [impl_answersValid_4_eq]
    simp only [cond_dec, if_pos hl, if_pos h0, hr, w64 (n := i + 1) (by omega) (by omega), impl_EntryValid_f, Option.bind_some, impl_answersValid_l xs hx ys (i + 1) (by omega) (by omega) hd', List.all_cons, answerOk]
    cases entryOk y.Asked with
    | false => rfl
    | true =>
      by_cases h1 : y.Reply < -4
      · rw [if_pos h1, decide_eq_false (p := -4 ≤ y.Reply ∧ y.Reply ≤ 999) (by omega)]; rfl
      · by_cases h2 : 999 < y.Reply
        · rw [if_neg h1, if_pos h2, decide_eq_false (p := -4 ≤ y.Reply ∧ y.Reply ≤ 999) (by omega)]; rfl
        · rw [if_neg h1, if_neg h2, decide_eq_true (p := -4 ≤ y.Reply ∧ y.Reply ≤ 999) (by omega)]; rfl
theorem impl_answersValid_f (xs : List impl_Answer) : impl_answersValid xs = some (answersOk xs, ()) := by
  rw [impl_answersValid_eq, cond_dec]
  unfold answersOk
  by_cases h : 24 < (xs.length : Int)
  · rw [if_pos h, decide_eq_false (by omega)]; rfl
  · rw [if_neg h, decide_eq_true (by omega), impl_answersValid_l xs (by omega) xs 0 (by omega) (by omega) rfl]; rfl
def nodeOk (e : Int) (r : impl_Replica) : Bool := replicaOk r && decide (r.Conf.Epoch ≤ e)
def bagUpto (e : Int) (l : List impl_Message) : Bool := l.all fun m => decide (m.Epoch ≤ e)
def chainOk (c : impl_Chain) : Bool := stateOk c.Base && configOk c.Conf && decide (c.Nodes.length = 5) && decide (c.Up.length = 5) && bagOk c.Bag && c.Nodes.all (nodeOk c.Conf.Epoch) && bagUpto c.Conf.Epoch c.Bag && answersOk c.Answers
structure ChainIn (c : impl_Chain) : Prop where
  known : c.Base.Known.length ≤ 1000000000000
  logs : ∀ r ∈ c.Nodes, r.Log.length ≤ 1000000000000
  bags : ∀ m ∈ c.Bag, m.Log.length ≤ 1000000000000
theorem impl_Chain_10 (c : impl_Chain) (hx : c.Bag.length ≤ 10) : ∀ (ys : List impl_Message) (i : Int), 0 ≤ i → i ≤ c.Bag.length → c.Bag.drop i.toNat = ys → impl_ChainValid_10 c.Bag (c.Bag.length : Int) i c = some (bagUpto c.Conf.Epoch ys && answersOk c.Answers, ())
  | [], i, h0, h1, hd => by
    have := drop_nil h0 h1 hd
    rw [impl_ChainValid_10_eq, cond_dec, if_neg (by omega), impl_answersValid_f]; rfl
  | y :: ys, i, h0, h1, hd => by
    obtain ⟨hr, hl, hd'⟩ := rd_drop (d := z_impl_Message) h0 hd
    have ih := impl_Chain_10 c hx ys (i + 1) (by omega) (by omega) hd'
    rw [impl_ChainValid_10_eq]
    simp only [cond_dec, if_pos hl, if_pos h0, hr, w64 (n := i + 1) (by omega) (by omega), ih, bagUpto, List.all_cons]
    by_cases e : c.Conf.Epoch < y.Epoch
    · rw [if_pos e, decide_eq_false (by omega)]; rfl
    · rw [if_neg e, decide_eq_true (by omega)]; rfl
theorem impl_Chain_4 (c : impl_Chain) (hx : c.Bag.length ≤ 10) (hn : c.Nodes.length = 5) : ∀ (ys : List impl_Replica) (i : Int), 0 ≤ i → i ≤ c.Nodes.length → c.Nodes.drop i.toNat = ys → impl_ChainValid_4 c.Nodes (c.Nodes.length : Int) i c = some (ys.all (nodeOk c.Conf.Epoch) && (bagUpto c.Conf.Epoch c.Bag && answersOk c.Answers), ())
  | [], i, h0, h1, hd => by
    have := drop_nil h0 h1 hd
    rw [impl_ChainValid_4_eq, cond_dec, if_neg (by omega), impl_Chain_10 c hx c.Bag 0 (by omega) (by omega) rfl]; rfl
  | y :: ys, i, h0, h1, hd => by
    obtain ⟨hr, hl, hd'⟩ := rd_drop (d := z_impl_Replica) h0 hd
    have ih := impl_Chain_4 c hx hn ys (i + 1) (by omega) (by omega) hd'
    rw [impl_ChainValid_4_eq]
    simp only [cond_dec, if_pos hl, if_pos h0, hr, eta_Replica, w64 (n := i + 1) (by omega) (by omega), ih, impl_ReplicaValid_f, Option.bind_some, List.all_cons, nodeOk]
    cases replicaOk y with
    | false => rfl
    | true =>
      by_cases e : c.Conf.Epoch < y.Conf.Epoch
      · rw [if_pos e, decide_eq_false (p := y.Conf.Epoch ≤ c.Conf.Epoch) (by omega)]; rfl
      · rw [if_neg e, decide_eq_true (p := y.Conf.Epoch ≤ c.Conf.Epoch) (by omega)]; rfl
theorem len5 {α : Type} (l : List α) : decide ((l.length : Int) = 5) = decide (l.length = 5) := by rw [decide_eq_decide]; omega
theorem bagOk_len {l : List impl_Message} (h : bagOk l = true) : l.length ≤ 10 := by
  simp only [bagOk, Bool.and_eq_true, decide_eq_true_eq] at h; exact h.1
theorem impl_ChainValid_f (c : impl_Chain) (h : ChainIn c) : impl_ChainValid c = some (chainOk c, ()) := by
  rw [impl_ChainValid_eq, impl_StateValid_f _ h.known, Option.bind_some, impl_ConfigValid_f, Option.bind_some, impl_BagValid_f, Option.bind_some, len5, len5, eta_Chain]
  unfold chainOk
  cases stateOk c.Base with
  | false => rfl
  | true =>
    cases configOk c.Conf with
    | false => rfl
    | true =>
      by_cases hn : c.Nodes.length = 5
      · rw [decide_eq_true hn]
        cases decide (c.Up.length = 5) with
        | false => rfl
        | true =>
          cases hb : bagOk c.Bag with
          | false => rfl
          | true =>
            simp only [Bool.not_true, cond_false, Bool.true_and, Bool.and_assoc]
            exact impl_Chain_4 c (bagOk_len hb) hn c.Nodes 0 (by omega) (by omega) rfl
      · rw [decide_eq_false hn]; rfl
theorem spec_Chain_14 (c : impl_Chain) (hx : c.Answers.length ≤ 24) : ∀ (ys : List impl_Answer) (i : Int), 0 ≤ i → i ≤ c.Answers.length → c.Answers.drop i.toNat = ys → spec_ChainValid_14 i c = some (ys.all answerOk, ())
  | [], i, h0, h1, hd => by
    have := drop_nil h0 h1 hd
    rw [spec_ChainValid_14_eq, cond_dec, if_neg (by omega)]; rfl
  | y :: ys, i, h0, h1, hd => by
    obtain ⟨hr, hl, hd'⟩ := rd_drop (d := z_impl_Answer) h0 hd
    have ih := spec_Chain_14 c hx ys (i + 1) (by omega) (by omega) hd'
    rw [spec_ChainValid_14_eq]
    simp only [cond_dec, if_pos hl, if_pos h0, hr, w64 (n := i + 1) (by omega) (by omega), ih, spec_EntryValid_f, spec_l1In_f, Option.bind_some, List.all_cons, answerOk]
    cases entryOk y.Asked with
    | false => rfl
    | true => cases decide (-4 ≤ y.Reply ∧ y.Reply ≤ 999) <;> rfl
theorem spec_Chain_9 (c : impl_Chain) (ha : c.Answers.length ≤ 24) (hx : c.Bag.length ≤ 10) : ∀ (ys : List impl_Message) (i : Int), 0 ≤ i → i ≤ c.Bag.length → c.Bag.drop i.toNat = ys → spec_ChainValid_9 i c = some (bagUpto c.Conf.Epoch ys && c.Answers.all answerOk, ())
  | [], i, h0, h1, hd => by
    have := drop_nil h0 h1 hd
    rw [spec_ChainValid_9_eq, cond_dec, if_neg (by omega), spec_Chain_14 c ha c.Answers 0 (by omega) (by omega) rfl]; rfl
  | y :: ys, i, h0, h1, hd => by
    obtain ⟨hr, hl, hd'⟩ := rd_drop (d := z_impl_Message) h0 hd
    have ih := spec_Chain_9 c ha hx ys (i + 1) (by omega) (by omega) hd'
    rw [spec_ChainValid_9_eq]
    simp only [cond_dec, if_pos hl, if_pos h0, hr, w64 (n := i + 1) (by omega) (by omega), ih, bagUpto, List.all_cons]
    by_cases e : c.Conf.Epoch < y.Epoch
    · rw [if_pos e, decide_eq_false (by omega)]; rfl
    · rw [if_neg e, decide_eq_true (by omega)]; rfl
theorem spec_Chain_4 (c : impl_Chain) (h : ChainIn c) (ha : c.Answers.length ≤ 24) (hx : c.Bag.length ≤ 10) (hn : c.Nodes.length = 5) : ∀ (ys : List impl_Replica) (i : Int), 0 ≤ i → i ≤ c.Nodes.length → c.Nodes.drop i.toNat = ys → spec_ChainValid_4 i c = some (ys.all (nodeOk c.Conf.Epoch) && (bagUpto c.Conf.Epoch c.Bag && c.Answers.all answerOk), ())
  | [], i, h0, h1, hd => by
    have := drop_nil h0 h1 hd
    rw [spec_ChainValid_4_eq, cond_dec, if_neg (by omega), spec_Chain_9 c ha hx c.Bag 0 (by omega) (by omega) rfl]; rfl
  | y :: ys, i, h0, h1, hd => by
    obtain ⟨hr, hl, hd'⟩ := rd_drop (d := z_impl_Replica) h0 hd
    have hm : y.Log.length ≤ 1000000000000 := by rw [← hr]; exact h.logs _ (rd_mem h0 hl)
    have ih := spec_Chain_4 c h ha hx hn ys (i + 1) (by omega) (by omega) hd'
    rw [spec_ChainValid_4_eq]
    simp only [cond_dec, if_pos (show i < 5 by omega), if_pos hl, if_pos h0, hr, eta_Replica, w64 (n := i + 1) (by omega) (by omega), ih, spec_ReplicaValid_f y hm, Option.bind_some, List.all_cons, nodeOk]
    cases replicaOk y with
    | false => rfl
    | true =>
      by_cases e : c.Conf.Epoch < y.Conf.Epoch
      · rw [if_pos e, decide_eq_false (p := y.Conf.Epoch ≤ c.Conf.Epoch) (by omega)]; rfl
      · rw [if_neg e, decide_eq_true (p := y.Conf.Epoch ≤ c.Conf.Epoch) (by omega)]; rfl
theorem spec_ChainValid_f (c : impl_Chain) (h : ChainIn c) : spec_ChainValid c = some (chainOk c, ()) := by
  rw [spec_ChainValid_eq, spec_StateValid_f _ h.known, Option.bind_some, spec_ConfigValid_f, Option.bind_some, spec_BagValid_f _ h.bags, Option.bind_some, len5, len5, eta_Chain, cond_dec]
  unfold chainOk answersOk
  cases stateOk c.Base with
  | false => rfl
  | true =>
    cases configOk c.Conf with
    | false => rfl
    | true =>
      by_cases hn : c.Nodes.length = 5
      · rw [decide_eq_true hn]
        cases decide (c.Up.length = 5) with
        | false => rfl
        | true =>
          cases hb : bagOk c.Bag with
          | false => rfl
          | true =>
            simp only [Bool.not_true, cond_false, Bool.true_and]
            by_cases ha : 24 < (c.Answers.length : Int)
            · rw [if_pos ha, decide_eq_false (p := c.Answers.length ≤ 24) (by omega)]; simp
            · rw [if_neg ha, decide_eq_true (p := c.Answers.length ≤ 24) (by omega), spec_Chain_4 c h (by omega) (bagOk_len hb) hn c.Nodes 0 (by omega) (by omega) rfl, Bool.true_and, Bool.and_assoc]
      · rw [decide_eq_false hn]; rfl
end Go.Proofs.YtlffjoabajdfnaaGreat.Ev
