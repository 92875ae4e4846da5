/- Of drawn lists of pairs and intervals: the program's DiffParts is the reference's, the same in both directions; the lists differ in the intervals that it tells; with one value changed it tells exactly the interval of its key. No condition. -/
import Derived.Test.YtfeeifefmenlmaaQFnDiffParts0
namespace Go.Proofs.Ytfeeifefmenlmaa.Pure
open Go.RowKit Go.Proofs.Ytfeeifefmenlmaa.PFnDiffParts Go.Proofs.YtfeeifefmenlmaaW.PrintWords Go.Proofs.YtfeeifefmenlmaaW.PrintLast Go.Proofs.YtfeeifefmenlmaaW.PrintMore Go.Proofs.Ytfeeifefmenlmaa.Lim
set_option linter.unusedVariables false
set_option linter.unusedSimpArgs false

theorem diffAt_symm : ∀ (xs ys : List Int) (i : Int), diffAt i xs ys = diffAt i ys xs
  | [], [], i => rfl
  | [], _ :: _, i => rfl
  | _ :: _, [], i => rfl
  | x :: xs, y :: ys, i => by
    simp only [diffAt, diffAt_symm xs ys (i + 1)]
    by_cases e : x = y
    · rw [if_pos e, if_pos e.symm]
    · rw [if_neg e, if_neg (fun h => e h.symm)]
theorem diffAt_self : ∀ (xs : List Int) (i : Int), diffAt i xs xs = []
  | [], i => rfl
  | x :: xs, i => by simp only [diffAt, if_true, diffAt_self xs]
theorem diffAt_mem (a b : List S29) (ps : List S83) : ∀ (vs : List S83) (i : Int), 0 ≤ i → ps.drop i.toNat = vs → ∀ j ∈ diffAt i (pdigs a vs) (pdigs b vs), 0 ≤ j ∧ j < ps.length ∧ ¬ pairsIn a (rd_T83 ps j).f0 (rd_T83 ps j).f1 = pairsIn b (rd_T83 ps j).f0 (rd_T83 ps j).f1
  | [], i, h0, hd, j, hj => by simp [pdigs, diffAt] at hj
  | v :: vs, i, h0, hd, j, hj => by
    obtain ⟨hr0, hl, hd'⟩ := getD_iv (d := z83) h0 hd
    have hr : rd_T83 ps i = v := hr0
    have ih := diffAt_mem a b ps vs (i + 1) (by omega) hd' j
    simp only [pdigs, List.map_cons, diffAt] at hj ih
    by_cases e : pairsDigest (pairsIn a v.f0 v.f1) = pairsDigest (pairsIn b v.f0 v.f1)
    · rw [if_pos e] at hj; exact ih hj
    · rw [if_neg e] at hj
      rcases List.mem_cons.1 hj with rfl | hj
      · exact ⟨h0, hl, fun h => e (by rw [hr] at h; rw [h])⟩
      · exact ih hj
theorem diffParts_mem (a b : List S29) (ps : List S83) : ∀ j ∈ diffParts a b ps, 0 ≤ j ∧ j < ps.length ∧ ¬ pairsIn a (rd_T83 ps j).f0 (rd_T83 ps j).f1 = pairsIn b (rd_T83 ps j).f0 (rd_T83 ps j).f1 := by
  intro j hj
  unfold diffParts partDigests at hj
  split at hj
  · split at hj
    · exact diffAt_mem a b ps ps 0 (by omega) (by simp) j hj
    · rw [diffAt_nil] at hj; cases hj
  · rw [diffAt_nil'] at hj; cases hj
/-- Where the intervals of a key stand. -/
def hitsAt (k : ByteArray) : Int → List S83 → List Int
  | _, [] => []
  | i, v :: vs => if inIv v.f0 v.f1 k = true then i :: hitsAt k (i + 1) vs else hitsAt k (i + 1) vs
theorem iv_step {v w : S83} {k : ByteArray} (h : joinOk v.f0 v.f1 w.f0 w.f1 = true) (hk : klt k v.f0 = true) : klt k w.f0 = true := by
  simp only [joinOk, Bool.and_eq_true, Bool.not_eq_true', decide_eq_true_eq, decide_eq_false_iff_not] at h
  have h1 := h.1.1.1
  simp only [ivOk, low, Bool.and_eq_true, Bool.or_eq_true, decide_eq_true_eq] at h1
  have hn : ¬ v.f0.toList = [] := fun e => by rw [klt_nil e] at hk; cases hk
  rw [if_neg hn] at h1
  have h2 : klt v.f0 v.f1 = true := by
    rcases h1.2 with e | e
    · exact absurd e h.1.2
    · exact e
  rw [← (toList_eq.1 h.2 : v.f1 = w.f0)]
  exact klt_tr hk h2
theorem hits_none (k : ByteArray) : ∀ (vs : List S83) (v : S83) (i : Int), chainFrom v vs = true → klt k v.f0 = true → hitsAt k i (v :: vs) = []
  | [], v, i, hc, hk => by
    simp only [hitsAt]
    rw [if_neg (by unfold inIv; rw [hk]; simp)]
  | w :: ws, v, i, hc, hk => by
    simp only [chainFrom, Bool.and_eq_true] at hc
    have ih := hits_none k ws w (i + 1) hc.2 (iv_step hc.1 hk)
    rw [hitsAt, if_neg (by unfold inIv; rw [hk]; simp), ih]
theorem hits_one (k : ByteArray) : ∀ (vs : List S83) (v : S83) (i : Int), chainFrom v vs = true → (lastIv v vs).f1.toList = [] → klt k v.f0 = false → hitsAt k i (v :: vs) = [findFrom k i (v :: vs)]
  | [], v, i, hc, hl, hk => by
    have hl : v.f1.toList = [] := hl
    have : inIv v.f0 v.f1 k = true := by unfold inIv; rw [hk, decide_eq_true hl]; rfl
    simp only [hitsAt, findFrom, this, if_true]
  | w :: ws, v, i, hc, hl, hk => by
    simp only [chainFrom, Bool.and_eq_true] at hc
    have hj := hc.1
    simp only [joinOk, Bool.and_eq_true, Bool.not_eq_true', decide_eq_true_eq, decide_eq_false_iff_not] at hj
    have hvw : v.f1 = w.f0 := toList_eq.1 hj.2
    rw [hitsAt, findFrom]
    cases hin : klt k w.f0 with
    | true =>
      have : inIv v.f0 v.f1 k = true := by unfold inIv; rw [hk, hvw, hin]; simp
      rw [if_pos this, if_pos this, hits_none k ws w (i + 1) hc.2 hin]
    | false =>
      have : inIv v.f0 v.f1 k = false := by unfold inIv; rw [hk, decide_eq_false hj.1.2, hvw, hin]; rfl
      rw [this, if_neg (by simp), if_neg (by simp), hits_one k ws w (i + 1) hc.2 hl hin]
theorem filter_set_out (f : ByteArray → Bool) (y : S29) : ∀ (l : List S29) (n : Nat), (l.getD n z29).f0 = y.f0 → f y.f0 = false → (l.set n y).filter (fun p => f p.f0) = l.filter (fun p => f p.f0)
  | [], n, _, _ => by simp
  | x :: xs, 0, h, hf => by
    have h : x.f0 = y.f0 := h
    show (y :: xs).filter _ = _
    rw [List.filter_cons, List.filter_cons, h, hf]
    simp only [Bool.false_eq_true, if_false]
  | x :: xs, n + 1, h, hf => by
    show (x :: xs.set n y).filter _ = _
    rw [List.filter_cons, List.filter_cons, filter_set_out f y xs n h hf]
theorem filter_set_in (f : ByteArray → Bool) (y : S29) : ∀ (l : List S29) (n : Nat), n < l.length → (l.getD n z29).f0 = y.f0 → f y.f0 = true → dsum ((l.set n y).filter (fun p => f p.f0)) = dsum (l.filter (fun p => f p.f0)) - digest (bs y.f0) (l.getD n z29).f1 + digest (bs y.f0) y.f1
  | [], n, hn, _, _ => by simp at hn
  | x :: xs, 0, hn, h, hf => by
    have h : x.f0 = y.f0 := h
    show dsum ((y :: xs).filter _) = dsum ((x :: xs).filter _) - digest (bs y.f0) x.f1 + _
    rw [List.filter_cons, List.filter_cons, h, hf]
    simp only [if_true, dsum, h]; omega
  | x :: xs, n + 1, hn, h, hf => by
    have ih := filter_set_in f y xs n (by simpa using hn) h hf
    show dsum ((x :: xs.set n y).filter _) = dsum ((x :: xs).filter _) - digest (bs y.f0) (xs.getD n z29).f1 + _
    rw [List.filter_cons, List.filter_cons]
    cases f x.f0 with
    | false => simpa using ih
    | true =>
      simp only [if_true, dsum, ih]; omega
theorem diff_changed (a : List S29) (h1 : pairsOk a = true) (n : Nat) (hn : n < a.length) (v : Int) (v0 : 0 ≤ v) (v1 : v ≤ 999) (hv : ¬ v = (a.getD n z29).f1) : ∀ (vs : List S83) (i : Int), (∀ w ∈ vs, ivOk w.f0 w.f1 = true) →
    diffAt i (pdigs a vs) (pdigs (a.set n ⟨(a.getD n z29).f0, v⟩) vs) = hitsAt (a.getD n z29).f0 i vs
  | [], i, _ => rfl
  | w :: ws, i, hw => by
    have ih := diff_changed a h1 n hn v v0 v1 hv ws (i + 1) (fun u hu => hw u (List.mem_cons_of_mem _ hu))
    have hi := hw w List.mem_cons_self
    have h2 := pairsOk_set h1 n v v0 v1
    have hmem : a.getD n z29 ∈ a := by
      rw [List.getD_eq_getElem?_getD, List.getElem?_eq_getElem hn]
      exact List.getElem_mem _
    have hit := pairsFrom_mem _ _ (pairsOk_from h1) _ hmem
    have hdi := digest_item hit
    have hkey : keyOk (bs (a.getD n z29).f0) = true := by
      simp only [pairItem, Bool.and_eq_true, decide_eq_true_eq] at hit; exact hit.1
    have hdv : digest (bs (a.getD n z29).f0) v = (1009 * keyRank (bs (a.getD n z29).f0) + 7 * v + 3) % 99991 := by
      unfold digest; rw [if_pos ⟨hkey, v0, v1⟩]
    simp only [pdigs, List.map_cons, diffAt, hitsAt] at ih ⊢
    rw [pairsDigest_ok (pairsIn_ok h1 hi), pairsDigest_ok (pairsIn_ok h2 hi)]
    have ea : pairsIn a w.f0 w.f1 = a.filter (fun p => inIv w.f0 w.f1 p.f0) := by unfold pairsIn; rw [if_pos ⟨h1, hi⟩]
    have eo : pairsIn (a.set n ⟨(a.getD n z29).f0, v⟩) w.f0 w.f1 = (a.set n ⟨(a.getD n z29).f0, v⟩).filter (fun p => inIv w.f0 w.f1 p.f0) := by unfold pairsIn; rw [if_pos ⟨h2, hi⟩]
    cases hin : inIv w.f0 w.f1 (a.getD n z29).f0 with
    | false =>
      have := filter_set_out (fun k => inIv w.f0 w.f1 k) ⟨(a.getD n z29).f0, v⟩ a n rfl hin
      rw [ea, eo, this, if_pos rfl, if_neg (by simp), ih]
    | true =>
      have := filter_set_in (fun k => inIv w.f0 w.f1 k) ⟨(a.getD n z29).f0, v⟩ a n hn rfl hin
      rw [ea, eo, this, if_pos rfl, ih, if_neg]
      dsimp only
      rw [hdi.1, hdv]
      generalize 1009 * keyRank (bs (a.getD n z29).f0) = A
      generalize dsum (a.filter fun p => inIv w.f0 w.f1 p.f0) = D
      omega
theorem diffParts_changed (a : List S29) (ps : List S83) (h1 : pairsOk a = true) (h3 : partOk ps = true) (n : Nat) (hn : n < a.length) (v : Int) (v0 : 0 ≤ v) (v1 : v ≤ 999) (hv : ¬ v = (a.getD n z29).f1) :
    diffParts a (a.set n ⟨(a.getD n z29).f0, v⟩) ps = [partFind ps (a.getD n z29).f0] := by
  have h2 := pairsOk_set h1 n v v0 v1
  have hmem : a.getD n z29 ∈ a := by
    rw [List.getD_eq_getElem?_getD, List.getElem?_eq_getElem hn]
    exact List.getElem_mem _
  have hit := pairsFrom_mem _ _ (pairsOk_from h1) _ hmem
  have hkey : keyOk (bs (a.getD n z29).f0) = true := by
    simp only [pairItem, Bool.and_eq_true, decide_eq_true_eq] at hit; exact hit.1
  unfold diffParts partDigests partFind
  rw [if_pos ⟨h1, h3⟩, if_pos ⟨h2, h3⟩, if_pos ⟨h3, hkey⟩, diff_changed a h1 n hn v v0 v1 hv ps 0 (partOk_mem h3)]
  cases ps with
  | nil => cases h3
  | cons u us =>
    have hr := rd_lastIv us u []
    simp only [List.nil_append] at hr
    simp only [partOk, Bool.and_eq_true, decide_eq_true_eq, hr] at h3
    exact hits_one _ us u 0 h3.2 h3.1.2 (klt_nil h3.1.1.2)
theorem lawDiffParts_l0 (l : List Int) (a b : List S29) (ps : List S83) (x : List Int) (hx : x.length ≤ 6) (hm : ∀ j ∈ x, 0 ≤ j ∧ j < ps.length ∧ ¬ pairsIn a (rd_T83 ps j).f0 (rd_T83 ps j).f1 = pairsIn b (rd_T83 ps j).f0 (rd_T83 ps j).f1) : ∀ (ys : List Int) (i : Int), 0 ≤ i → i ≤ x.length → x.drop i.toNat = ys →
    laws_FnDiffParts.l0L l a b ps x i = if pairsOk a = true then (if partOk ps = true then laws_FnDiffParts.j2L l a ps ((a.length : Int) == 0) else laws_FnDiffParts.j2L l a ps true) else laws_FnDiffParts.j2L l a ps true
  | [], i, h0, h1, hd => by
    have := drop_nil h0 h1 hd
    rw [laws_FnDiffParts.l0L_eq, if_neg (by omega), impl_PairsValid_f, Option.bind_some, impl_PartitionValid_f, Option.bind_some]
  | y :: ys, i, h0, h1, hd => by
    obtain ⟨hy, hl, hd'⟩ := rd_drop h0 hd
    have hmy : y ∈ x := by
      have : y ∈ x.drop i.toNat := by rw [hd]; exact List.mem_cons_self
      exact List.mem_of_mem_drop this
    have hmm := hm y hmy
    have hpl := pairsIn_length a (rd_T83 ps y).f0 (rd_T83 ps y).f1
    obtain ⟨c, hc, hc2⟩ := laws_samePairs_f (pairsIn a (rd_T83 ps y).f0 (rd_T83 ps y).f1) (pairsIn b (rd_T83 ps y).f0 (rd_T83 ps y).f1) (by omega)
    rw [laws_FnDiffParts.l0L_eq, if_pos hl, if_pos h0, hy, if_neg (by omega), if_neg (by omega), if_pos hmm.1, if_pos hmm.2.1, impl_PairsIn_f, Option.bind_some, impl_PairsIn_f, Option.bind_some, hc, Option.bind_some, if_neg (fun h => hmm.2.2 (hc2.1 h)), w64 (by omega) (by omega)]
    exact lawDiffParts_l0 l a b ps x hx hm ys (i + 1) (by omega) (by omega) hd'
theorem FnDiffParts : laws_FnDiffParts.Pure := by
  intro l _ hl hw
  refine (laws_FnDiffParts.fL_is l).rounds ?_
  rw [laws_FnDiffParts.fL_eq]
  by_cases h : (l.length : Int) > 1048576
  · rw [if_pos h]
  · have hc := Code.take hw
    obtain ⟨a, b, hab, hal, hbl⟩ := drawPairChanges hw
    obtain ⟨ps, q2, hp, _, _, hpl⟩ := l20Parts_ok hc 0 12 (by omega) (by omega) (by omega)
    have hd : spec_DrawDiffParts.fL l = some (a, b, ps) := by
      rw [spec_DrawDiffParts.fL_eq, hab, Option.bind_some, spec_l20Open_f, Option.bind_some]
      dsimp only
      rw [hp, Option.bind_some]
    have h6 := diffParts_length a b ps
    have hsym : diffParts b a ps = diffParts a b ps := by unfold diffParts; rw [diffAt_symm]
    have halive : laws_FnDiffParts.j2L l a ps true = some true := by
      have : diffParts a a ps = [] := by unfold diffParts; rw [diffAt_self]
      rw [laws_FnDiffParts.j2L_eq, if_pos rfl, impl_DiffParts_f, Option.bind_some, this, if_pos (by simp), laws_alive_f, Option.bind_some]
    rw [if_neg h, hd, Option.bind_some]
    dsimp only
    rw [impl_DiffParts_f, Option.bind_some, spec_DiffParts_f, Option.bind_some, laws_sameInts_f _ _ (by omega), Option.bind_some, if_pos (by simp), impl_DiffParts_f, Option.bind_some, hsym, laws_sameInts_f _ _ (by omega), Option.bind_some, decide_eq_true rfl, Bool.not_true, laws_FnDiffParts.j0L_eq, if_neg (by simp),
      lawDiffParts_l0 l a b ps _ h6 (diffParts_mem a b ps) _ 0 (by omega) (by omega) rfl]
    by_cases h1 : pairsOk a = true
    · rw [if_pos h1]
      by_cases h3 : partOk ps = true
      · rw [if_pos h3]
        by_cases he : (a.length : Int) = 0
        · rw [show ((a.length : Int) == 0) = true by simpa using he, halive]
        · have hm0 : 0 ≤ (l.length : Int) % (a.length : Int) := Int.emod_nonneg _ (by omega)
          have hm1 : (l.length : Int) % (a.length : Int) < (a.length : Int) := Int.emod_lt_of_pos _ (by omega)
          rw [show ((a.length : Int) == 0) = false by rw [beq_eq_false_iff_ne]; exact he, laws_FnDiffParts.j2L_eq, if_neg (by simp), if_neg he, Option.bind_some, if_pos (by simp; omega), Option.bind_some, if_pos hm0, if_pos hm1, if_pos (by simpa using hm1), List.nil_append]
          generalize hM : (l.length : Int) % (a.length : Int) = M at *
          have hmem : rd_T29 a M ∈ a := by
            unfold rd_T29
            rw [List.getD_eq_getElem?_getD, List.getElem?_eq_getElem (show M.toNat < a.length by omega)]
            exact List.getElem_mem _
          have hdi := digest_item (pairsFrom_mem _ _ (pairsOk_from h1) _ hmem)
          have hch := diffParts_changed a ps h1 h3 M.toNat (by omega) (((rd_T29 a M).f1 + 1) % 1000) (by omega) (by omega) (by
            show ¬ ((rd_T29 a M).f1 + 1) % 1000 = (rd_T29 a M).f1
            omega)
          rw [w64 (by omega) (by omega), Int.tmod_eq_emod_of_nonneg (by omega), impl_DiffParts_f, Option.bind_some, impl_PartitionFind_f, Option.bind_some]
          have hch : diffParts a (a.set M.toNat ⟨(rd_T29 a M).f0, ((rd_T29 a M).f1 + 1) % 1000⟩) ps = [partFind ps (rd_T29 a M).f0] := hch
          rw [hch, laws_sameInts_f _ _ (by simp), Option.bind_some]
          simp
      · rw [if_neg h3, halive]
    · rw [if_neg h1, halive]

end Go.Proofs.Ytfeeifefmenlmaa.Pure
