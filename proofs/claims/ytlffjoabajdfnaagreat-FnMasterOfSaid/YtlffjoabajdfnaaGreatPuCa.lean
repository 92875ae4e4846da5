/- Caches and callers, as the specification changes them: they return, and valid ones stay valid. No condition. -/
import Derived.Test.YtlffjoabajdfnaaGreatPuDx
import Derived.Test.YtlffjoabajdfnaaGreatPuCl
set_option linter.unusedVariables false
set_option linter.unusedSimpArgs false
namespace Go.Proofs.YtlffjoabajdfnaaGreat.Ev
open Go.Proofs.YtlffjoabajdfnaaGreat.Eng
open Go.RowKit (wrap64)
/-! ### Intervals, one before the other -/
theorem sLt_no (a : ByteArray) : sLt a es = false := by
  have e1 : es.toList = [] := by rw [toList_data]; rfl
  unfold sLt
  rw [e1]
  cases a.toList <;> rfl
def Bef (a b : impl_Interval) : Prop := a.High ≠ es ∧ sLt b.Low a.High = false
theorem ivOk_says {a : impl_Interval} (h : ivOk a = true) : (a.Low = es ∨ keyOk a.Low = true) ∧ (a.High = es ∨ keyOk a.High = true) ∧ (a.High = es ∨ sLt (lowOf a.Low) a.High = true) := by
  simp only [ivOk, Bool.and_eq_true, Bool.or_eq_true, decide_eq_true_eq] at h
  exact ⟨h.1.1, h.1.2, h.2⟩
theorem ivOk_lt {a : impl_Interval} (h : ivOk a = true) (hn : a.High ≠ es) : sLt a.Low a.High = true := by
  obtain ⟨h1, h2, h3⟩ := ivOk_says h
  by_cases e : a.Low = es
  · rw [e]; exact sLt_es (h2.resolve_left hn)
  · have := h3.resolve_left hn
    unfold lowOf at this
    rwa [if_neg e] at this
theorem Bef.trans {a b c : impl_Interval} (hb : ivOk b = true) (h : Bef a b) (k : Bef b c) : Bef a c :=
  ⟨h.1, le_tr (le_tr h.2 (sLt_asym (ivOk_lt hb k.1))) k.2⟩
theorem Bef.not {a b : impl_Interval} (ha : ivOk a = true) (h : Bef a b) : sLt b.Low a.Low = false := le_tr (sLt_asym (ivOk_lt ha h.1)) h.2
theorem Bef.lt {a b : impl_Interval} (ha : ivOk a = true) (h : Bef a b) : sLt a.Low b.Low = true := by
  cases e : sLt a.Low b.Low with
  | true => rfl
  | false => have h1 := le_tr h.2 e; rw [ivOk_lt ha h.1] at h1; cases h1
theorem ivOk_mid {lo hi : ByteArray} (h1 : lo = es ∨ keyOk lo = true) (h2 : hi = es ∨ keyOk hi = true) (h : ivOk ⟨lo, hi⟩ = false) : hi ≠ es ∧ sLt (lowOf lo) hi = false := by
  have e1 : (decide (lo = es) || keyOk lo) = true := by simpa using h1
  have e2 : (decide (hi = es) || keyOk hi) = true := by simpa using h2
  unfold ivOk at h
  dsimp only at h
  rw [e1, e2, Bool.true_and, Bool.true_and, Bool.or_eq_false_iff, decide_eq_false_iff_not] at h
  exact h
theorem meet_t (a b : impl_Interval) : Tot (spec_IntervalMeet a b) (fun x => ivOk a = true → ivOk b = true → x.1.2.1 = false → Bef a b ∨ Bef b a) := by
  have m8 : ∀ s m, spec_IntervalMeet_8 s m = some ((if ivOk m = true then (m, true, ()) else (z_impl_Interval, false, ()) : impl_Interval × Bool × Unit), ()) := by
    intro s m
    rw [spec_IntervalMeet_8_eq, spec_IntervalValid_f, Option.bind_some]
    cases ivOk m <;> rfl
  have fin : ∀ (m : impl_Interval) (P : Prop), (ivOk m = false → P) → (if ivOk m = true then (m, true, ()) else (z_impl_Interval, false, ()) : impl_Interval × Bool × Unit).2.1 = false → P := by
    intro m P h
    cases e : ivOk m with
    | true => intro k; rw [if_pos rfl] at k; cases k
    | false => intro _; exact h e
  rw [spec_IntervalMeet_eq, spec_IntervalValid_f, spec_IntervalValid_f, Option.bind_some]
  cases ha : ivOk a with
  | false => exact Tot.val fun h => by cases h
  | true =>
    rw [Bool.not_true, cond_false, Option.bind_some]
    cases hb : ivOk b with
    | false => exact Tot.val fun _ h => by cases h
    | true =>
      obtain ⟨a1, a2, a3⟩ := ivOk_says ha
      obtain ⟨b1, b2, b3⟩ := ivOk_says hb
      simp only [m8, Bool.not_true, cond_false, sEq_dec, cond_dec]
      have hA : sLt a.Low b.Low = true → ivOk ⟨b.Low, a.High⟩ = false → Bef a b := fun hlt h => by
        obtain ⟨h1, h2⟩ := ivOk_mid b1 a2 h
        have hne : b.Low ≠ es := fun e => by rw [e, sLt_no] at hlt; cases hlt
        unfold lowOf at h2
        rw [if_neg hne] at h2
        exact ⟨h1, h2⟩
      have hB : sLt a.Low b.Low = false → ivOk ⟨a.Low, b.High⟩ = false → Bef b a := fun hlt h => by
        obtain ⟨h1, h2⟩ := ivOk_mid a1 b2 h
        refine ⟨h1, ?_⟩
        by_cases e : a.Low = es
        · have eb : b.Low = es := by
            rw [e] at hlt
            rcases b1 with b1 | b1
            · exact b1
            · rw [sLt_es b1] at hlt; cases hlt
          have := b3.resolve_left h1
          rw [eb] at this
          rw [e] at h2
          rw [this] at h2; cases h2
        · unfold lowOf at h2
          rwa [if_neg e] at h2
      refine Tot.bif (fun hc => ?_) fun hc => ?_
      · have hlt : sLt a.Low b.Low = true := by
          rw [Bool.not_eq_true', Bool.or_eq_false_iff, decide_eq_false_iff_not] at hc
          cases e : sLt a.Low b.Low with
          | true => rfl
          | false => exact absurd (sLt_total hc.1 e) hc.2
        refine Tot.bif (fun h1 => Tot.ite (fun h2 => ?_) fun h2 => Tot.bif (fun h3 => ?_) fun h3 => ?_) fun h1 => ?_
        · exact Tot.val fun _ _ => fin b _ fun e => by rw [hb] at e; cases e
        · exact Tot.val fun _ _ => fin b _ fun e => by rw [hb] at e; cases e
        · exact Tot.val fun _ _ => fin _ _ fun e => .inl (hA hlt e)
        · exact Tot.val fun _ _ => fin _ _ fun e => .inl (hA hlt e)
      · have hlt : sLt a.Low b.Low = false := by
          rw [Bool.not_eq_false', Bool.or_eq_true, decide_eq_true_eq] at hc
          rcases hc with hc | hc
          · exact sLt_asym hc
          · rw [hc]; exact sLt_irrefl _
        refine Tot.bif (fun h1 => Tot.ite (fun h2 => ?_) fun h2 => Tot.bif (fun h3 => ?_) fun h3 => ?_) fun h1 => ?_
        · exact Tot.val fun _ _ => fin _ _ fun e => .inr (hB hlt e)
        · exact Tot.val fun _ _ => fin _ _ fun e => .inr (hB hlt e)
        · exact Tot.val fun _ _ => fin a _ fun e => by rw [ha] at e; cases e
        · exact Tot.val fun _ _ => fin a _ fun e => by rw [ha] at e; cases e
/-! ### Caches -/
structure CaOk (l : List impl_Route) : Prop where
  nums : (l.map fun r => r.Number).Nodup
  range : ∀ r ∈ l, 0 ≤ r.Number ∧ r.Number ≤ 7
  iv : ∀ r ∈ l, ivOk r.Span = true
  bef : l.Pairwise fun a b => Bef a.Span b.Span
theorem nums_iff : ∀ (l : List impl_Route) (pre : List Int), numsFrom pre l = true ↔ (l.map fun r => r.Number).Nodup ∧ (∀ r ∈ l, 0 ≤ r.Number ∧ r.Number ≤ 7) ∧ ∀ r ∈ l, r.Number ∉ pre
  | [], pre => by simp [numsFrom]
  | y :: l, pre => by
    simp only [numsFrom, Bool.and_eq_true, Bool.not_eq_true', decide_eq_true_eq, decide_eq_false_iff_not, nums_iff l (pre ++ [y.Number]), List.map_cons, List.nodup_cons, List.forall_mem_cons]
    constructor
    · rintro ⟨⟨h1, h2⟩, h3, h4, h5⟩
      refine ⟨⟨fun h => ?_, h3⟩, ⟨h1, h4⟩, h2, fun r hr h => h5 r hr (List.mem_append_left _ h)⟩
      obtain ⟨r, hr, e⟩ := List.mem_map.1 h
      exact h5 r hr (by rw [e]; simp)
    · rintro ⟨⟨h1, h2⟩, ⟨h3, h4⟩, h5, h6⟩
      refine ⟨⟨h3, h5⟩, h2, h4, fun r hr h => ?_⟩
      rcases List.mem_append.1 h with h | h
      · exact h6 r hr h
      · exact h1 (List.mem_map.2 ⟨r, hr, List.mem_singleton.1 h⟩)
theorem gap_iff : ∀ (l : List impl_Route) (p : Option ByteArray), gapFrom p l = true ↔ (∀ r ∈ l, ivOk r.Span = true) ∧ (l.Pairwise fun a b => Bef a.Span b.Span) ∧ ∀ r ∈ l, gapOk p r.Span.Low = true
  | [], p => by simp [gapFrom]
  | y :: l, p => by
    simp only [gapFrom, Bool.and_eq_true, gap_iff l (some y.Span.High), List.pairwise_cons, List.forall_mem_cons]
    constructor
    · rintro ⟨⟨h1, h2⟩, h3, h4, h5⟩
      have hb : ∀ r ∈ l, Bef y.Span r.Span := fun r hr => by
        have := h5 r hr
        simp only [gapOk, Bool.and_eq_true, Bool.not_eq_true', decide_eq_false_iff_not] at this
        exact this
      refine ⟨⟨h1, h3⟩, ⟨hb, h4⟩, h2, fun r hr => ?_⟩
      cases p with
      | none => rfl
      | some h =>
        simp only [gapOk, Bool.and_eq_true, Bool.not_eq_true', decide_eq_false_iff_not] at h2 ⊢
        exact ⟨h2.1, le_tr h2.2 ((hb r hr).not h1)⟩
    · rintro ⟨⟨h1, h2⟩, ⟨h3, h4⟩, h5, h6⟩
      refine ⟨⟨h1, h5⟩, h2, h4, fun r hr => ?_⟩
      have := h3 r hr
      simp only [gapOk, Bool.and_eq_true, Bool.not_eq_true', decide_eq_false_iff_not]
      exact this
theorem cacheOk_iff (l : List impl_Route) : cacheOk l = true ↔ CaOk l := by
  simp only [cacheOk, Bool.and_eq_true, nums_iff, gap_iff]
  exact ⟨fun h => ⟨h.1.1, h.1.2.1, h.2.1, h.2.2.1⟩, fun h => ⟨⟨h.nums, h.range, fun r _ h => by cases h⟩, h.iv, h.bef, fun r _ => rfl⟩⟩
theorem CaOk.sub {l m : List impl_Route} (h : CaOk l) (hs : m.Sublist l) : CaOk m :=
  ⟨(hs.map _).nodup h.nums, fun r hr => h.range r (hs.subset hr), fun r hr => h.iv r (hs.subset hr), h.bef.sublist hs⟩
theorem cacheOk_len {l : List impl_Route} (h : cacheOk l = true) : l.length ≤ 8 := by
  simp only [cacheOk, Bool.and_eq_true] at h; exact numsFrom_len h.1
theorem forget_t (l : List impl_Route) (n : Int) (h : cacheOk l = true) : Tot (spec_CacheForget l n) (fun x => cacheOk x.1 = true) := by
  have hl := cacheOk_len h
  have go : ∀ (ys : List impl_Route) (i : Int) (out : List impl_Route), 0 ≤ i → i ≤ l.length → l.drop i.toNat = ys → (out ++ ys).Sublist l → Tot (spec_CacheForget_3 l n i out) (fun x => cacheOk x.1 = true) := by
    intro ys
    induction ys with
    | nil =>
      intro i out h0 h1 hd hs
      have := drop_nil h0 h1 hd
      rw [spec_CacheForget_3_eq, cond_dec, if_neg (by omega)]
      exact Tot.val ((cacheOk_iff _).2 (((cacheOk_iff l).1 h).sub (by simpa using hs)))
    | cons y ys ih =>
      intro i out h0 h1 hd hs
      obtain ⟨hr, hlt, hd'⟩ := rd_drop (d := z_impl_Route) h0 hd
      have ho := hs.length_le
      simp only [List.length_append, List.length_cons] at ho
      rw [spec_CacheForget_3_eq]
      simp only [cond_dec, if_pos hlt, if_pos h0, hr, spec_CacheValid_f l (by omega), h, Option.bind_some, cond_true, w64 (n := i + 1) (by omega) (by omega)]
      refine Tot.bif (fun _ => ?_) fun _ => ih (i + 1) out (by omega) (by omega) hd' (List.Sublist.trans (List.Sublist.append_left (List.sublist_cons_self y ys) out) hs)
      rw [ble_row (by simp; omega) (by omega), cond_true]
      exact ih (i + 1) _ (by omega) (by omega) hd' (by simpa using hs)
  rw [spec_CacheForget_eq]
  exact go l 0 [] (by omega) (by omega) rfl (by simp)
theorem learn_t (l : List impl_Route) (r : impl_Route) (hx : l.length ≤ 1000) : Tot (spec_CacheLearn l r) (fun x => cacheOk x.1 = true) := by
  rw [spec_CacheLearn_eq, spec_CacheValid_f l (by omega), spec_CacheValid_f [r] (by simp), Option.bind_some]
  cases h : cacheOk l with
  | false => exact Tot.val rfl
  | true =>
    cases hr' : cacheOk [r] with
    | false => exact Tot.val rfl
    | true =>
      have hl := cacheOk_len h
      have H := (cacheOk_iff l).1 h
      have R := (cacheOk_iff [r]).1 hr'
      have riv := R.iv r List.mem_cons_self
      have rrg := R.range r List.mem_cons_self
      simp only [Bool.not_true, cond_false, Option.bind_some]
      -- once the route is in
      have fin : ∀ (ys : List impl_Route) (i : Int) (out : List impl_Route), 0 ≤ i → i ≤ l.length → l.drop i.toNat = ys → out.length ≤ i.toNat + 1 → CaOk out → r ∈ out → (∀ a ∈ out, ∀ y ∈ ys, Bef a.Span y.Span ∧ (a.Number = y.Number → y.Number = r.Number)) → CaOk ys →
          Tot (spec_CacheLearn_6 l true i r out) (fun x => cacheOk x.1 = true) := by
        intro ys
        induction ys with
        | nil =>
          intro i out h0 h1 hd ho hout hrm hb hys
          have := drop_nil h0 h1 hd
          rw [spec_CacheLearn_6_eq, cond_dec, if_neg (by omega)]
          exact Tot.val ((cacheOk_iff _).2 hout)
        | cons y ys ih =>
          intro i out h0 h1 hd ho hout hrm hb hys
          obtain ⟨hr, hlt, hd'⟩ := rd_drop (d := z_impl_Route) h0 hd
          have hys' : CaOk ys := hys.sub (List.sublist_cons_self y ys)
          have skip := ih (i + 1) out (by omega) (by omega) hd' (by omega) hout hrm (fun a ha z hz => hb a ha z (List.mem_cons_of_mem _ hz)) hys'
          rw [spec_CacheLearn_6_eq]
          simp only [cond_dec, if_pos hlt, if_pos h0, hr, w64 (n := i + 1) (by omega) (by omega), Bool.not_true, cond_false]
          refine (meet_t y.Span r.Span).bind fun m hm => Tot.bif (fun _ => skip) fun hm0 => Tot.ite (fun _ => skip) fun hn => ?_
          rw [ble_row (by simp; omega) (by omega), cond_true]
          have hyl := List.pairwise_cons.1 hys.bef
          have hyn := List.nodup_cons.1 hys.nums
          refine ih (i + 1) _ (by omega) (by omega) hd' (by simp; omega) ⟨?_, ?_, ?_, ?_⟩ (List.mem_append_left _ hrm) (fun a ha z hz => ?_) hys'
          · rw [List.map_append, List.nodup_append]
            refine ⟨hout.nums, by simp, ?_⟩
            intro x hx1 z hz
            obtain ⟨a, ha, rfl⟩ := List.mem_map.1 hx1
            obtain ⟨b, hb1, rfl⟩ := List.mem_map.1 hz
            rw [List.mem_singleton.1 hb1]
            exact fun e => hn ((hb a ha y List.mem_cons_self).2 e)
          · intro a ha
            rcases List.mem_append.1 ha with ha | ha
            · exact hout.range a ha
            · rw [List.mem_singleton.1 ha]; exact hys.range y List.mem_cons_self
          · intro a ha
            rcases List.mem_append.1 ha with ha | ha
            · exact hout.iv a ha
            · rw [List.mem_singleton.1 ha]; exact hys.iv y List.mem_cons_self
          · rw [List.pairwise_append]
            refine ⟨hout.bef, List.pairwise_singleton _ _, fun a ha b hb1 => ?_⟩
            rw [List.mem_singleton.1 hb1]; exact (hb a ha y List.mem_cons_self).1
          · rcases List.mem_append.1 ha with ha | ha
            · exact hb a ha z (List.mem_cons_of_mem _ hz)
            · rw [List.mem_singleton.1 ha]
              exact ⟨hyl.1 z hz, fun e => absurd (List.mem_map.2 ⟨z, hz, e.symm⟩) hyn.1⟩
      -- before it is in
      have go : ∀ (ys : List impl_Route) (i : Int) (out : List impl_Route), 0 ≤ i → i ≤ l.length → l.drop i.toNat = ys → (out ++ ys).Sublist l → (∀ a ∈ out, Bef a.Span r.Span ∧ a.Number ≠ r.Number) → Tot (spec_CacheLearn_6 l false i r out) (fun x => cacheOk x.1 = true) := by
        intro ys
        induction ys with
        | nil =>
          intro i out h0 h1 hd hs hb
          have := drop_nil h0 h1 hd
          have ho := hs.length_le
          simp only [List.length_append, List.length_nil] at ho
          have O := H.sub (by simpa using hs : out.Sublist l)
          rw [spec_CacheLearn_6_eq, cond_dec, if_neg (by omega), ble_row (by simp; omega) (by omega)]
          refine Tot.val ((cacheOk_iff _).2 ⟨?_, ?_, ?_, ?_⟩)
          · rw [List.map_append, List.nodup_append]
            refine ⟨O.nums, by simp, ?_⟩
            intro x hx1 z hz
            obtain ⟨a, ha, rfl⟩ := List.mem_map.1 hx1
            obtain ⟨b, hb1, rfl⟩ := List.mem_map.1 hz
            rw [List.mem_singleton.1 hb1]; exact (hb a ha).2
          · intro a ha
            rcases List.mem_append.1 ha with ha | ha
            · exact O.range a ha
            · rw [List.mem_singleton.1 ha]; exact rrg
          · intro a ha
            rcases List.mem_append.1 ha with ha | ha
            · exact O.iv a ha
            · rw [List.mem_singleton.1 ha]; exact riv
          · rw [List.pairwise_append]
            refine ⟨O.bef, List.pairwise_singleton _ _, fun a ha b hb1 => ?_⟩
            rw [List.mem_singleton.1 hb1]; exact (hb a ha).1
        | cons y ys ih =>
          intro i out h0 h1 hd hs hb
          obtain ⟨hr, hlt, hd'⟩ := rd_drop (d := z_impl_Route) h0 hd
          have ho := hs.length_le
          simp only [List.length_append, List.length_cons] at ho
          have skip := ih (i + 1) out (by omega) (by omega) hd' (List.Sublist.trans (List.Sublist.append_left (List.sublist_cons_self y ys) out) hs) hb
          have O := H.sub hs
          have yiv := O.iv y (by simp)
          rw [spec_CacheLearn_6_eq]
          simp only [cond_dec, if_pos hlt, if_pos h0, hr, w64 (n := i + 1) (by omega) (by omega), Bool.not_false, cond_true, sEq_dec]
          refine (meet_t y.Span r.Span).bind fun m hm => Tot.bif (fun _ => skip) fun hm0 => Tot.ite (fun _ => skip) fun hn => Tot.bif (fun hc => ?_) fun hc => ?_
          · -- it comes ahead of this one
            have hlow : sLt r.Span.Low y.Span.Low = true := by
              rw [Bool.not_eq_true', Bool.or_eq_false_iff, decide_eq_false_iff_not] at hc
              cases e : sLt r.Span.Low y.Span.Low with
              | true => rfl
              | false => exact absurd (sLt_total hc.1 e) hc.2
            have hry : Bef r.Span y.Span := by
              rcases hm yiv riv hm0 with h | h
              · have := h.not yiv; rw [hlow] at this; cases this
              · exact h
            have hyl := congrArg List.length hd
            simp only [List.length_drop, List.length_cons] at hyl
            rw [ble_row (by simp; omega) (by omega), cond_true, ble_row (by simp; omega) (by omega), cond_true]
            have hP := List.pairwise_append.1 O.bef
            have hyP := List.pairwise_cons.1 hP.2.1
            have hN := O.nums
            rw [List.map_append, List.nodup_append] at hN
            obtain ⟨n1, n2, n3⟩ := hN
            rw [List.map_cons, List.nodup_cons] at n2
            refine fin ys (i + 1) _ (by omega) (by omega) hd' (by simp; omega) ⟨?_, ?_, ?_, ?_⟩ (by simp) (fun a ha z hz => ?_) (O.sub (List.Sublist.trans (List.sublist_cons_self y ys) (List.sublist_append_right out (y :: ys))))
            · rw [List.map_append, List.map_append, List.append_assoc, List.nodup_append]
              refine ⟨n1, by simp; exact fun e => hn e.symm, ?_⟩
              intro x hx1 z hz
              obtain ⟨a, ha, rfl⟩ := List.mem_map.1 hx1
              rcases List.mem_append.1 hz with hz | hz
              · obtain ⟨b, hb1, rfl⟩ := List.mem_map.1 hz
                rw [List.mem_singleton.1 hb1]; exact (hb a ha).2
              · obtain ⟨b, hb1, rfl⟩ := List.mem_map.1 hz
                rw [List.mem_singleton.1 hb1]
                exact n3 _ (List.mem_map.2 ⟨a, ha, rfl⟩) _ (by simp)
            · intro a ha
              simp only [List.mem_append, List.mem_singleton] at ha
              rcases ha with (ha | rfl) | rfl
              · exact O.range a (List.mem_append_left _ ha)
              · exact rrg
              · exact O.range a (by simp)
            · intro a ha
              simp only [List.mem_append, List.mem_singleton] at ha
              rcases ha with (ha | rfl) | rfl
              · exact O.iv a (List.mem_append_left _ ha)
              · exact riv
              · exact yiv
            · rw [List.append_assoc, List.pairwise_append]
              refine ⟨hP.1, ?_, fun a ha b hb1 => ?_⟩
              · simp only [List.singleton_append, List.pairwise_cons]
                exact ⟨fun b hb1 => by rw [List.mem_singleton.1 hb1]; exact hry, ⟨fun b hb1 => (by cases hb1), List.Pairwise.nil⟩⟩
              · simp only [List.mem_append, List.mem_singleton] at hb1
                rcases hb1 with rfl | rfl
                · exact (hb a ha).1
                · exact hP.2.2 a ha b (by simp)
            · have hyz := hyP.1 z hz
              simp only [List.mem_append, List.mem_singleton] at ha
              rcases ha with (ha | rfl) | rfl
              · exact ⟨hP.2.2 a ha z (List.mem_cons_of_mem _ hz), fun e => absurd e (n3 _ (List.mem_map.2 ⟨a, ha, rfl⟩) _ (List.mem_map.2 ⟨z, List.mem_cons_of_mem _ hz, rfl⟩))⟩
              · exact ⟨Bef.trans yiv hry hyz, fun e => e.symm⟩
              · exact ⟨hyz, fun e => absurd (List.mem_map.2 ⟨z, hz, e.symm⟩) n2.1⟩
          · have hlow : sLt r.Span.Low y.Span.Low = false := by
              rw [Bool.not_eq_false', Bool.or_eq_true, decide_eq_true_eq] at hc
              rcases hc with hc | hc
              · exact sLt_asym hc
              · rw [hc]; exact sLt_irrefl _
            have hyr : Bef y.Span r.Span := by
              rcases hm yiv riv hm0 with h | h
              · exact h
              · have := h.lt riv; rw [hlow] at this; cases this
            rw [ble_row (by simp; omega) (by omega), cond_true]
            refine ih (i + 1) _ (by omega) (by omega) hd' (by simpa using hs) fun a ha => ?_
            rcases List.mem_append.1 ha with ha | ha
            · exact hb a ha
            · rw [List.mem_singleton.1 ha]; exact ⟨hyr, hn⟩
      exact go l 0 [] (by omega) (by omega) rfl (by simp) (fun a ha => by cases ha)
theorem cacheFind_t (l : List impl_Route) (k : ByteArray) (hx : l.length ≤ 1000) : Tot (spec_CacheFind l k) (fun _ => True) := by
  rw [spec_CacheFind_eq, spec_CacheValid_f l (by omega), Option.bind_some]
  refine Tot.bif (fun _ => Tot.val trivial) fun _ => ?_
  have go : ∀ (j : Nat) (i : Int), i + j = l.length → 0 ≤ i → Tot (spec_CacheFind_4 l k i) (fun _ => True) := by
    intro j
    induction j with
    | zero => intro i hj h0; rw [spec_CacheFind_4_eq, cond_dec, if_neg (by omega)]; exact Tot.val trivial
    | succ j ih =>
      intro i hj h0
      have hi : i < (l.length : Int) := by omega
      rw [spec_CacheFind_4_eq]
      simp only [cond_dec, if_pos hi, if_pos h0, spec_IntervalHas_f, Option.bind_some, w64 (n := i + 1) (by omega) (by omega)]
      exact Tot.bif (fun _ => Tot.val trivial) fun _ => ih (i + 1) (by omega) (by omega)
  exact go l.length 0 (by omega) (by omega)
/-! ### Routes -/
theorem routeOf_t (l : List impl_Route) (k : ByteArray) (hx : l.length ≤ 1000) : Tot (spec_RouteOf l k) (fun x => x.1 = -1 ∨ x.1 ∈ l.map fun r => r.Number) := by
  rw [spec_RouteOf_eq, spec_RoutesValid_f l (by omega), Option.bind_some, spec_KeyValid_f, Option.bind_some]
  refine Tot.bif (fun _ => Tot.val (.inl rfl)) fun _ => Tot.bif (fun _ => Tot.val (.inl rfl)) fun _ => ?_
  have go : ∀ (j : Nat) (i : Int), i + j = l.length → 0 ≤ i → Tot (spec_RouteOf_4 l k i) (fun x => x.1 = -1 ∨ x.1 ∈ l.map fun r => r.Number) := by
    intro j
    induction j with
    | zero => intro i hj h0; rw [spec_RouteOf_4_eq, cond_dec, if_neg (by omega)]; exact Tot.val (.inl rfl)
    | succ j ih =>
      intro i hj h0
      have hi : i < (l.length : Int) := by omega
      rw [spec_RouteOf_4_eq]
      simp only [cond_dec, if_pos hi, if_pos h0, spec_IntervalHas_f, Option.bind_some, w64 (n := i + 1) (by omega) (by omega)]
      exact Tot.bif (fun _ => Tot.val (.inr (List.mem_map.2 ⟨_, rd_mem h0 hi, rfl⟩))) fun _ => ih (i + 1) (by omega) (by omega)
  exact go l.length 0 (by omega) (by omega)
theorem routeSpan_t (l : List impl_Route) (n : Int) (hx : l.length ≤ 1000) : Tot (spec_RouteSpan l n) (fun _ => True) := by
  have go : ∀ (j : Nat) (i : Int), i + j = l.length → 0 ≤ i → Tot (spec_l23Index_2 l n i) (fun x => x.1 = -1 ∨ 0 ≤ x.1 ∧ x.1 < l.length) := by
    intro j
    induction j with
    | zero => intro i hj h0; rw [spec_l23Index_2_eq, cond_dec, if_neg (by omega)]; exact Tot.val (.inl rfl)
    | succ j ih =>
      intro i hj h0
      have hi : i < (l.length : Int) := by omega
      rw [spec_l23Index_2_eq]
      simp only [cond_dec, if_pos hi, if_pos h0, w64 (n := i + 1) (by omega) (by omega)]
      exact Tot.ite (fun _ => Tot.val (.inr ⟨h0, hi⟩)) fun _ => ih (i + 1) (by omega) (by omega)
  rw [spec_RouteSpan_eq, spec_l23Index_eq]
  refine (go l.length 0 (by omega) (by omega)).bind fun x hx' => ?_
  rw [spec_RoutesValid_f l (by omega), Option.bind_some]
  simp only [cond_dec]
  refine Tot.bif (fun _ => Tot.val trivial) fun _ => Tot.ite (fun _ => Tot.val trivial) fun hneg => ?_
  rw [if_pos (by omega), if_pos (by omega)]; exact Tot.val trivial
/-! ### Callers -/
theorem callerOk_cache {c : impl_Caller} (h : callerOk c = true) : cacheOk c.Cache = true := by
  simp only [callerOk, Bool.and_eq_true] at h; exact h.1.1
theorem callerOk_set {c : impl_Caller} {l : List impl_Route} (h : callerOk c = true) (hl : cacheOk l = true) : callerOk ⟨l, c.Seq, c.Busy, c.Wish, c.Called⟩ = true := by
  simp only [callerOk, Bool.and_eq_true] at h ⊢; exact ⟨⟨hl, h.1.2⟩, h.2⟩
theorem callerOk_busy {c : impl_Caller} (h : callerOk c = true) (hb : c.Busy = true) : (1 ≤ c.Seq ∧ c.Seq ≤ 999) ∧ wishOk c.Wish = true := by
  simp only [callerOk, Bool.and_eq_true, decide_eq_true_eq, if_pos hb] at h
  exact ⟨⟨h.2.1.1, h.1.2.2⟩, h.2.1.2⟩
theorem callerOk_idle {c : impl_Caller} (h : callerOk c = true) : callerOk ⟨c.Cache, c.Seq, false, ⟨0, es, 0, 0⟩, 0⟩ = true := by
  simp only [callerOk, Bool.and_eq_true] at h ⊢
  refine ⟨h.1, ?_⟩
  rw [if_neg (by simp)]; simp [cmdZero, eqI_dec, sEq_dec]
theorem ask_t (c : impl_Caller) (w : impl_Command) (k : Int) (h : callerOk c = true) : Tot (spec_AskCaller c w k) (fun x => x.1.2.1 = true → callerOk x.1.1 = true) := by
  have hl := cacheOk_len (callerOk_cache h)
  rw [spec_AskCaller_eq, spec_CallerValid_f c (by omega), Option.bind_some, h, spec_l25Wish_f, spec_l1In_f, spec_l25Copy_eq, ble_row (by simp; omega) (by omega)]
  simp only [Bool.not_true, cond_false, Option.bind_some, cond_true, cond_dec]
  refine Tot.bif (fun _ => Tot.val fun h => by cases h) fun hw => Tot.bif (fun _ => Tot.val fun h => by cases h) fun hk => Tot.bif (fun _ => Tot.val fun h => by cases h) fun _ => Tot.ite (fun _ => Tot.val fun h => by cases h) fun hs => Tot.val fun _ => ?_
  rw [Bool.not_eq_false', decide_eq_true_eq] at hk
  rw [Bool.not_eq_false'] at hw
  simp only [callerOk, Bool.and_eq_true, decide_eq_true_eq] at h
  have h2 := h.1.2
  rw [w64 (n := c.Seq + 1) (by omega) (by omega)]
  simp only [callerOk, Bool.and_eq_true, decide_eq_true_eq]
  refine ⟨⟨h.1.1, by omega⟩, ?_⟩
  rw [if_pos trivial]
  simp only [Bool.and_eq_true, decide_eq_true_eq]
  exact ⟨⟨by omega, hw⟩, hk⟩
theorem giveUp_t (c : impl_Caller) (h : callerOk c = true) : Tot (spec_GiveUp c) (fun x => callerOk x.1.1 = true) := by
  have hl := cacheOk_len (callerOk_cache h)
  rw [spec_GiveUp_eq, spec_CallerValid_f c (by omega), Option.bind_some, h, ble_row (by simp; omega) (by omega)]
  exact Tot.val (callerOk_idle h)
theorem finish_t (c : impl_Caller) (w r k : Int) (h : callerOk c = true) : Tot (spec_FinishCaller c w r k) (fun x => x.1.2.2.1 = true → callerOk x.1.1 = true ∧ resultOk x.1.2.1 = true) := by
  have hl := cacheOk_len (callerOk_cache h)
  rw [spec_FinishCaller_eq, spec_CallerValid_f c (by omega), Option.bind_some, h, spec_ResultValid_f, ble_row (by simp; omega) (by omega)]
  simp only [Bool.not_true, cond_false, Option.bind_some, cond_true]
  refine Tot.bif (fun _ => Tot.val fun h => by cases h) fun _ => Tot.bif (fun _ => Tot.val fun h => by cases h) fun hr => Tot.val fun _ => ⟨callerOk_idle h, ?_⟩
  rwa [Bool.not_eq_false'] at hr
theorem wish_cmd {c : impl_Command} (h : wishOk c = true) : cmdOk c = true := by
  simp only [wishOk, Bool.and_eq_true] at h; exact h.1
theorem request_t (c : impl_Caller) (w : Int) (h : callerOk c = true) (hb : c.Busy = true) (hw : 0 ≤ w ∧ w ≤ 3) : Tot (spec_RequestOf c w) (fun x => entryOk x.1.1 = true) := by
  have hl := cacheOk_len (callerOk_cache h)
  obtain ⟨h1, h2⟩ := callerOk_busy h hb
  rw [spec_RequestOf_eq, spec_CallerValid_f c (by omega), Option.bind_some, h, hb, spec_l1In_f, decide_eq_true hw]
  refine Tot.val ?_
  simp only [entryOk, Bool.and_eq_true, decide_eq_true_eq]
  exact ⟨⟨hw, h1⟩, wish_cmd h2⟩
end Go.Proofs.YtlffjoabajdfnaaGreat.Ev
