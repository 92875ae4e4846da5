/- Feeds: which are valid, what they do to pairs, and what a log's feed is. No condition. -/
import Derived.Test.YtlffjoabajdfnaaGreatPuRe
import Derived.Test.YtlffjoabajdfnaaGreatPuPi
set_option linter.unusedVariables false
set_option linter.unusedSimpArgs false
namespace Go.Proofs.YtlffjoabajdfnaaGreat.Ev
open Go.Proofs.YtlffjoabajdfnaaGreat.Eng
open Go.RowKit (wrap64)
/-! ### A feed applied -/
/-! ### A log's feed -/
/-! ### What a valid entry does to a valid state -/
theorem pairGet_range {l : List impl_Pair} (k : ByteArray) : -1 ≤ pairGet l k ∧ pairGet l k ≤ 999 := by
  unfold pairGet
  cases h1 : pairsOk l with
  | false => simp
  | true =>
    cases h : hit k l with
    | false => simp
    | true =>
      have := (pairsOk_key h1 _ (rd_mem (d := z_impl_Pair) (xs := l) (i := (place k l : Int)) (by omega) (by have := hit_lt h; omega))).2
      simp only [if_true]
      omega
theorem put_same {l : List impl_Pair} {k : ByteArray} (hl : pairsOk l = true) (hk : keyOk k = true) (hv : pairGet l k ≠ -1) : pairPut l k (pairGet l k) = (l, true) := by
  rcases pairs_split k l ((pairsOk_iff _).1 hl).2.2 with ⟨A, B, v, rfl, h1, h2⟩ | ⟨A, B, rfl, h1, h2⟩
  · have hv := (pairItem_of hl).2
    rw [pairGet_hit hl h1 h2, pairPut_hit hl hk hv h1 h2]
  · exact absurd (pairGet_no h1 h2) hv
theorem put_get {l : List impl_Pair} {k : ByteArray} {v : Int} (hl : pairsOk l = true) (hk : keyOk k = true) (hv : 0 ≤ v ∧ v ≤ 999) (hr : pairGet l k ≠ -1 ∨ l.length < 48) : (pairPut l k v).2 = true ∧ pairsOk (pairPut l k v).1 = true ∧ pairGet (pairPut l k v).1 k = v ∧ ∀ y ∈ (pairPut l k v).1, y.Key = k ∨ y ∈ l := by
  rcases pairs_split k l ((pairsOk_iff _).1 hl).2.2 with ⟨A, B, u, rfl, h1, h2⟩ | ⟨A, B, rfl, h1, h2⟩
  · have hs := pairsOk_set (u := v) hl hv h1 h2
    rw [pairPut_hit hl hk hv h1 h2]
    refine ⟨rfl, hs, pairGet_hit hs h1 h2, fun y hy => ?_⟩
    rcases List.mem_append.1 hy with hy | hy
    · exact .inr (List.mem_append_left _ hy)
    · rcases List.mem_cons.1 hy with rfl | hy
      · exact .inl rfl
      · exact .inr (List.mem_append_right _ (List.mem_cons_of_mem _ hy))
  · have hlt : (A ++ B).length < 48 := hr.resolve_left (fun h => h (pairGet_no h1 h2))
    have hs := pairsOk_ins hl hk hv h1 h2 hlt
    rw [pairPut_no hl hk hv h1 h2, if_neg (by omega)]
    refine ⟨rfl, hs, pairGet_hit hs h1 h2, fun y hy => ?_⟩
    rcases List.mem_append.1 hy with hy | hy
    · exact .inr (List.mem_append_left _ hy)
    · rcases List.mem_cons.1 hy with rfl | hy
      · exact .inl rfl
      · exact .inr (List.mem_append_right _ hy)
theorem drop_get {l : List impl_Pair} {k : ByteArray} (hl : pairsOk l = true) : pairsOk (pairDrop l k).1 = true ∧ pairGet (pairDrop l k).1 k = -1 ∧ (∀ y ∈ (pairDrop l k).1, y ∈ l) ∧ (pairGet l k ≠ -1 → (pairDrop l k).2 = true) ∧ (pairGet l k = -1 → (pairDrop l k).1 = l) := by
  rcases pairs_split k l ((pairsOk_iff _).1 hl).2.2 with ⟨A, B, u, rfl, h1, h2⟩ | ⟨A, B, rfl, h1, h2⟩
  · have hv := (pairItem_of hl).2
    rw [pairDrop_hit hl h1 h2]
    refine ⟨pairsOk_del hl, pairGet_no h1 h2, fun y hy => ?_, fun _ => rfl, fun h => ?_⟩
    · rcases List.mem_append.1 hy with hy | hy
      · exact List.mem_append_left _ hy
      · exact List.mem_append_right _ (List.mem_cons_of_mem _ hy)
    · rw [pairGet_hit hl h1 h2] at h; omega
  · rw [pairDrop_no hl h1 h2]
    exact ⟨hl, pairGet_no h1 h2, fun y hy => hy, fun h => absurd (pairGet_no h1 h2) h, fun _ => rfl⟩
structure Did (l l' : List impl_Pair) (k : ByteArray) (r : Int) : Prop where
  ok : pairsOk l' = true
  mem : ∀ y ∈ l', y.Key = k ∨ y ∈ l
  same : pairGet l k = pairGet l' k → l' = l
  diff : pairGet l k ≠ pairGet l' k → (if pairGet l' k = -1 then pairDrop l k else pairPut l k (pairGet l' k)) = (l', true)
  reply : -2 ≤ r ∧ r ≤ 999
theorem did_none {l : List impl_Pair} {k : ByteArray} {r : Int} (hl : pairsOk l = true) (hr : -2 ≤ r ∧ r ≤ 999) : Did l l k r := ⟨hl, fun _ h => .inr h, fun _ => rfl, fun h => absurd rfl h, hr⟩
theorem applyC_did {l : List impl_Pair} {c : impl_Command} (hl : pairsOk l = true) (hc : cmdOk c = true) (h5 : c.Kind ≠ 5) : Did l (applyC l c).1 c.Key (applyC l c).2 := by
  have hk := cmdOk_key hc h5
  have hg := pairGet_range (l := l) c.Key
  have h48 := pairsOk_le hl
  unfold applyC
  rw [if_pos ⟨hl, hc, h5⟩]
  by_cases h3 : c.Kind = 3
  · rw [if_pos h3]
    obtain ⟨d1, d2, d3, d4, d5⟩ := drop_get (k := c.Key) hl
    refine ⟨d1, fun y hy => .inr (d3 y hy), fun h => d5 (by rw [h]; exact d2), fun h => ?_, by dsimp only; omega⟩
    rw [d2] at h
    rw [if_pos d2]
    exact Prod.ext rfl (d4 h)
  · rw [if_neg h3]
    by_cases h1 : c.Kind = 1 ∨ (c.Kind = 4 ∧ c.Old ≠ pairGet l c.Key)
    · rw [if_pos h1]; exact did_none hl (by dsimp only; omega)
    · rw [if_neg h1]
      by_cases h8 : pairGet l c.Key = -1 ∧ 8 ≤ l.length
      · rw [if_pos h8]; exact did_none hl (by dsimp only; omega)
      · rw [if_neg h8]
        have hv : 0 ≤ c.Value ∧ c.Value ≤ 999 := by
          simp only [cmdOk, Bool.and_eq_true, Bool.or_eq_true, decide_eq_true_eq] at hc
          have hk2 := hc.1.1
          have hd := hc.2
          by_cases k2 : c.Kind = 2
          · rw [if_pos k2] at hd; simp only [Bool.and_eq_true, decide_eq_true_eq] at hd; exact hd.1
          · by_cases k4 : c.Kind = 4
            · rw [if_neg k2, if_pos k4] at hd; simp only [Bool.and_eq_true, decide_eq_true_eq] at hd; exact hd.1
            · exfalso
              have : c.Kind ≠ 1 := fun h => h1 (.inl h)
              omega
        have hr : pairGet l c.Key ≠ -1 ∨ l.length < 48 := by
          by_cases g : pairGet l c.Key = -1
          · right
            have : ¬ 8 ≤ l.length := fun h => h8 ⟨g, h⟩
            omega
          · exact .inl g
        obtain ⟨p1, p2, p3, p4⟩ := put_get hl hk hv hr
        refine ⟨p2, p4, fun h => ?_, fun h => ?_, by dsimp only; omega⟩
        · have h : pairGet l c.Key = c.Value := h.trans p3
          show (pairPut l c.Key c.Value).1 = l
          rw [← h, put_same hl hk (by omega)]
        · show (if pairGet (pairPut l c.Key c.Value).1 c.Key = -1 then _ else pairPut l c.Key (pairGet (pairPut l c.Key c.Value).1 c.Key)) = _
          rw [p3, if_neg (by omega)]
          exact Prod.ext rfl p1
theorem sessPut_ok {l : List impl_Session} {s : impl_Session} (hl : sessOk l = true) (hs : sessItem s = true) : sessOk (sessPut l s).1 = true := by
  unfold sessPut
  rw [if_pos ⟨hl, hs⟩]
  have hp := (sessOk_iff l).1 hl
  rcases sess_split s.Client l hp.2 with ⟨A, B, y, rfl, k0, k1, k2⟩ | ⟨A, B, rfl, k1, k2⟩
  · obtain ⟨h1, h2⟩ := shit_app k0 k1 k2
    rw [if_pos h2]
    split
    · exact hl
    · rw [h1]
      have e : (A ++ y :: B).take A.length ++ s :: (A ++ y :: B).drop (A.length + 1) = A ++ s :: B := by simp
      show sessOk ((A ++ y :: B).take A.length ++ s :: (A ++ y :: B).drop (A.length + 1)) = true
      rw [e]
      refine (sessOk_iff _).2 ⟨fun z hz => ?_, ?_⟩
      · rcases List.mem_append.1 hz with hz | hz
        · exact hp.1 z (List.mem_append_left _ hz)
        · rcases List.mem_cons.1 hz with rfl | hz
          · exact hs
          · exact hp.1 z (List.mem_append_right _ (List.mem_cons_of_mem _ hz))
      · have hq := hp.2
        rw [List.pairwise_append, List.pairwise_cons] at hq ⊢
        refine ⟨hq.1, ⟨k2, hq.2.1.2⟩, fun x hx z hz => ?_⟩
        rcases List.mem_cons.1 hz with rfl | hz
        · exact k1 x hx
        · exact hq.2.2 x hx z (List.mem_cons_of_mem _ hz)
  · obtain ⟨h1, h2⟩ := snohit_app k1 k2
    rw [if_neg (by rw [h2]; simp), h1]
    have e : (A ++ B).take A.length ++ s :: (A ++ B).drop A.length = A ++ s :: B := by simp
    show sessOk ((A ++ B).take A.length ++ s :: (A ++ B).drop A.length) = true
    rw [e]
    refine (sessOk_iff _).2 ⟨fun z hz => ?_, ?_⟩
    · rcases List.mem_append.1 hz with hz | hz
      · exact hp.1 z (List.mem_append_left _ hz)
      · rcases List.mem_cons.1 hz with rfl | hz
        · exact hs
        · exact hp.1 z (List.mem_append_right _ hz)
    · have hq := hp.2
      rw [List.pairwise_append] at hq
      rw [List.pairwise_append, List.pairwise_cons]
      refine ⟨hq.1, ⟨k2, hq.2.1⟩, fun x hx z hz => ?_⟩
      rcases List.mem_cons.1 hz with rfl | hz
      · exact k1 x hx
      · exact hq.2.2 x hx z hz
theorem stateOk_iff (s : impl_State) : stateOk s = true ↔ ivOk s.Span = true ∧ pairsOk s.Pairs = true ∧ sessOk s.Known = true ∧ (∀ p ∈ s.Pairs, inIv s.Span p.Key = true) ∧ (s.Cut = es ∨ (s.Sealed = true ∧ cutOk s.Span s.Cut = true)) := by
  simp only [stateOk, Bool.and_eq_true, Bool.or_eq_true, List.all_eq_true, decide_eq_true_eq, and_assoc]
theorem applyE_did {s : impl_State} {e : impl_Entry} (hs : stateOk s = true) (he : entryOk e = true) : stateOk (applyE s e).1 = true ∧ Did s.Pairs (applyE s e).1.Pairs e.Cmd.Key 0 ∧ (pairGet s.Pairs e.Cmd.Key ≠ pairGet (applyE s e).1.Pairs e.Cmd.Key → keyOk e.Cmd.Key = true) := by
  obtain ⟨h1, h2, h3, h4, h5⟩ := (stateOk_iff s).1 hs
  obtain ⟨e1, e2, e3⟩ := entryOk_says he
  have same : stateOk s = true ∧ Did s.Pairs s.Pairs e.Cmd.Key 0 ∧ (pairGet s.Pairs e.Cmd.Key ≠ pairGet s.Pairs e.Cmd.Key → keyOk e.Cmd.Key = true) := ⟨hs, did_none h2 (by omega), fun h => absurd rfl h⟩
  unfold applyE
  rw [if_pos ⟨hs, he⟩]
  by_cases c1 : (sessOf s.Known e.Client).Seq = e.Seq
  · rw [if_pos c1]; exact same
  · rw [if_neg c1]
    by_cases c2 : e.Seq < (sessOf s.Known e.Client).Seq
    · rw [if_pos c2]; exact same
    · rw [if_neg c2]
      by_cases c3 : s.Sealed = true ∨ takes s e.Cmd = false
      · rw [if_pos c3]; exact same
      · rw [if_neg c3]
        have c4 : s.Sealed = false := by cases h : s.Sealed <;> simp [h] at c3 ⊢
        have c5 : takes s e.Cmd = true := by cases h : takes s e.Cmd <;> simp [h] at c3 ⊢
        unfold applyE1
        by_cases k5 : e.Cmd.Kind = 5
        · rw [if_pos k5]
          unfold takes at c5
          rw [if_pos k5, Bool.or_eq_true, decide_eq_true_eq] at c5
          have hsi : sessItem ⟨e.Client, e.Seq, 0⟩ = true := (sessItem_iff _).2 ⟨e1, e2, by dsimp only; omega⟩
          exact ⟨(stateOk_iff _).2 ⟨h1, h2, sessPut_ok h3 hsi, h4, c5.imp id fun h => ⟨rfl, h⟩⟩, did_none h2 (by omega), fun h => absurd rfl h⟩
        · rw [if_neg k5]
          have d := applyC_did h2 e3 k5
          have hsi : sessItem ⟨e.Client, e.Seq, (applyC s.Pairs e.Cmd).2⟩ = true := (sessItem_iff _).2 ⟨e1, e2, d.reply⟩
          unfold takes at c5
          rw [if_neg k5] at c5
          refine ⟨(stateOk_iff _).2 ⟨h1, d.ok, sessPut_ok h3 hsi, fun p hp => ?_, ?_⟩, ⟨d.ok, d.mem, d.same, d.diff, by omega⟩, fun _ => cmdOk_key e3 k5⟩
          · rcases d.mem p hp with h | h
            · rw [h]; exact c5
            · exact h4 p h
          · rcases h5 with h | h
            · exact .inl h
            · rw [c4] at h; exact absurd h.1 (by simp)
end Go.Proofs.YtlffjoabajdfnaaGreat.Ev
