/- Of drawn results and orders: the program's RealTime is the reference's; if the calls do not descend in an order of valid results, it respects real time; an order that respects real time does so without its last result. No condition. -/
import Derived.Test.YtfeeifefmenlmaaQFnRealTime0
namespace Go.Proofs.Ytfeeifefmenlmaa.Pure
open Go.RowKit Go.Proofs.Ytfeeifefmenlmaa.PFnRealTime Go.Proofs.YtfeeifefmenlmaaW.PrintWords Go.Proofs.YtfeeifefmenlmaaW.PrintLast Go.Proofs.YtfeeifefmenlmaaW.PrintMore Go.Proofs.Ytfeeifefmenlmaa.Lim
set_option linter.unusedVariables false
set_option linter.unusedSimpArgs false

/-- The results stand by their calls, all valid, behind a call. -/
def riseFrom (xs : List S42) : Option Int → List Int → Bool
  | _, [] => true
  | p, y :: ys => resOk (rd_T42 xs y) && (match p with | none => true | some c => decide ((rd_T42 xs y).f4 ≥ c)) && riseFrom xs (some (rd_T42 xs y).f4) ys
theorem resOk_time {x : S42} (h : resOk x = true) : x.f4 ≤ x.f5 := by
  simp only [resOk, Bool.and_eq_true, decide_eq_true_eq] at h; omega
theorem rise_before (xs : List S42) : ∀ (ys : List Int) (c d : Int), riseFrom xs (some d) ys = true → c ≤ d → before xs c ys = true
  | [], c, d, _, _ => rfl
  | y :: ys, c, d, h, hc => by
    simp only [riseFrom, Bool.and_eq_true, decide_eq_true_eq] at h
    have ht := resOk_time h.1.1
    have ih := rise_before xs ys c _ h.2 (by omega)
    unfold before at ih ⊢
    rw [List.all_cons, ih, decide_eq_false (by omega)]; rfl
theorem rise_rtI (xs : List S42) : ∀ (ys : List Int) (p : Option Int), riseFrom xs p ys = true → rtI xs ys = true ∧ (ys.all fun m => resOk (rd_T42 xs m)) = true
  | [], p, _ => ⟨rfl, rfl⟩
  | y :: ys, p, h => by
    simp only [riseFrom, Bool.and_eq_true] at h
    have ih := rise_rtI xs ys _ h.2
    have hb := rise_before xs ys _ _ h.2 (Int.le_refl _)
    exact ⟨by simp only [rtI, hb, ih.1, Bool.and_true], by rw [List.all_cons, h.1.1, ih.2]; rfl⟩
theorem lawRealTime_l0 (xs : List S42) (o : List Int) (ok : Bool) (ho : o.length ≤ 5) (hr : ∀ m ∈ o, 0 ≤ m ∧ m < xs.length) : ∀ (ys : List Int) (f : Bool) (i : Int) (p : Option Int), 0 ≤ i → i ≤ o.length → o.drop i.toNat = ys → (i = 0 → p = none) → (0 < i → p = some (rd_T42 xs (rd o (i - 1))).f4) →
    laws_FnRealTime.l0L xs o ok f i = laws_FnRealTime.j1L xs o ok ((f && riseFrom xs p ys) && !ok)
  | [], f, i, p, h0, h1, hd, hp0, hp1 => by
    have := drop_nil h0 h1 hd
    rw [laws_FnRealTime.l0L_eq, if_neg (by omega)]
    cases f <;> simp [riseFrom]
  | y :: ys, f, i, p, h0, h1, hd, hp0, hp1 => by
    obtain ⟨hz, hl, hd'⟩ := rd_drop h0 hd
    have hm : y ∈ o := by
      have : y ∈ o.drop i.toNat := by rw [hd]; exact List.mem_cons_self
      exact List.mem_of_mem_drop this
    have hy := hr y hm
    have ih := fun f => lawRealTime_l0 xs o ok ho hr ys f (i + 1) (some (rd_T42 xs y).f4) (by omega) (by omega) hd' (fun h => by omega) (fun _ => by rw [show i + 1 - 1 = i by omega, hz])
    rw [laws_FnRealTime.l0L_eq, if_pos hl]
    simp only [w64 (n := i + 1) (by omega) (by omega), ih]
    cases f with
    | false => simp
    | true =>
      rw [if_pos rfl, if_pos h0, hz, if_pos hy.1, if_pos hy.2, impl_ResultValid_f, Option.bind_some]
      simp only [riseFrom]
      cases hres : resOk (rd_T42 xs y) with
      | false => simp
      | true =>
        rw [if_pos rfl]
        by_cases e : i = 0
        · rw [if_pos e, hp0 e]; simp
        · have hp := hp1 (by omega)
          have hm2 : rd o (i - 1) ∈ o := by
            unfold rd
            rw [List.getD_eq_getElem?_getD, List.getElem?_eq_getElem (show (i - 1).toNat < o.length by omega)]
            exact List.getElem_mem _
          have hy2 := hr _ hm2
          rw [if_neg e, w64 (n := i - 1) (by omega) (by omega), if_pos (by omega), if_pos (by omega), if_pos hy2.1, if_pos hy2.2, hp]
          simp
/-- A number without the result z before it. -/
def without (z n : Int) : Int := if n > z then n - 1 else n
theorem lawRealTime_l1 (z : Int) (ls : List S42) (o : List Int) (ho : o.length ≤ 5) (hr : ∀ m ∈ o, 0 ≤ m ∧ m ≤ 1000) : ∀ (ys out : List Int) (w i : Int), 0 ≤ i → o.drop i.toNat = ys ++ [w] → (out.length : Int) ≤ i → laws_FnRealTime.l1L o z ls out i = (impl_RealTime.fL ls (out ++ ys.map (without z))).bind fun t => some t
  | [], out, w, i, h0, hd, hl => by
    obtain ⟨hz, hlt, hd'⟩ := rd_drop h0 hd
    have := drop_nil (by omega) (by omega) hd'
    rw [laws_FnRealTime.l1L_eq, w64 (by omega) (by omega), if_neg (by omega)]; simp
  | y :: ys, out, w, i, h0, hd, hl => by
    obtain ⟨hz, hlt, hd'⟩ := rd_drop h0 hd
    have hlen := congrArg List.length hd'
    simp at hlen
    have hm : y ∈ o := by
      have : y ∈ o.drop i.toNat := by rw [hd]; simp
      exact List.mem_of_mem_drop this
    have hy := hr y hm
    have ih := fun out (h : (out.length : Int) ≤ i + 1) => lawRealTime_l1 z ls o ho hr ys out w (i + 1) (by omega) hd' h
    rw [laws_FnRealTime.l1L_eq, w64 (n := i + 1) (by omega) (by omega), if_pos (by omega), if_pos h0, if_pos hlt, hz]
    by_cases e : y > z
    · rw [if_pos e, if_pos (by omega), w64 (by omega) (by omega), ih _ (by simp; omega)]; simp [without, e]
    · rw [if_neg e, if_pos (by omega), ih _ (by simp; omega)]; simp [without, e]
theorem rd_less (xs : List S42) (z n : Int) (hz : 0 ≤ z) (hz2 : z < xs.length) (hn : 0 ≤ n) (hn2 : n < xs.length) (hne : n ≠ z) : rd_T42 (xs.take z.toNat ++ xs.drop (z + 1).toNat) (without z n) = rd_T42 xs n := by
  unfold rd_T42 without
  rw [List.getD_eq_getElem?_getD, List.getD_eq_getElem?_getD]
  congr 1
  by_cases e : n > z
  · rw [if_pos e, List.getElem?_append_right (by simp; omega), List.getElem?_drop]
    congr 1
    simp; omega
  · rw [if_neg e, List.getElem?_append_left (by simp; omega), List.getElem?_take, if_pos (by omega)]
theorem rtI_map (xs ls : List S42) (g : Int → Int) : ∀ ys : List Int, (∀ m ∈ ys, rd_T42 ls (g m) = rd_T42 xs m) → rtI ls (ys.map g) = rtI xs ys
  | [], _ => rfl
  | y :: ys, h => by
    have hb : ∀ (c : Int) (zs : List Int), (∀ m ∈ zs, rd_T42 ls (g m) = rd_T42 xs m) → before ls c (zs.map g) = before xs c zs := by
      intro c zs
      induction zs with
      | nil => intro _; rfl
      | cons w ws ih =>
        intro h
        have := ih (fun m hm => h m (List.mem_cons_of_mem _ hm))
        unfold before at this ⊢
        rw [List.map_cons, List.all_cons, List.all_cons, this, h w List.mem_cons_self]
    simp only [List.map_cons, rtI, h y List.mem_cons_self, hb _ ys (fun m hm => h m (List.mem_cons_of_mem _ hm)), rtI_map xs ls g ys (fun m hm => h m (List.mem_cons_of_mem _ hm))]
theorem rtI_append (xs : List S42) : ∀ a b : List Int, rtI xs (a ++ b) = true → rtI xs a = true
  | [], b, _ => rfl
  | y :: ys, b, h => by
    simp only [List.cons_append, rtI, Bool.and_eq_true] at h ⊢
    refine ⟨?_, rtI_append xs ys b h.2⟩
    have := h.1
    unfold before at this ⊢
    rw [List.all_append, Bool.and_eq_true] at this
    exact this.1
theorem realTime_less (xs : List S42) (a : List Int) (z : Int) (h : realTime xs (a ++ [z]) = true) : realTime (xs.take z.toNat ++ xs.drop (z + 1).toNat) (a.map (without z)) = true := by
  simp only [realTime, Bool.and_eq_true, decide_eq_true_eq] at h
  obtain ⟨⟨⟨h1, h2⟩, h3⟩, h4⟩ := h
  obtain ⟨_, k2, k3, k4⟩ := (orderOk_iff _ _).1 h3
  have hz := k3 z (by simp)
  have hnd := List.nodup_append.1 k4
  have hne : ∀ m ∈ a, m ≠ z := fun m hm => hnd.2.2 m hm z (by simp)
  have hlen : ((xs.take z.toNat ++ xs.drop (z + 1).toNat).length : Int) = xs.length - 1 := by simp; omega
  have hal : (a.length : Int) = xs.length - 1 := by simp at k2; omega
  have hrd : ∀ m ∈ a, rd_T42 (xs.take z.toNat ++ xs.drop (z + 1).toNat) (without z m) = rd_T42 xs m := fun m hm => by
    have := k3 m (by simp [hm])
    exact rd_less xs z m hz.1 hz.2 this.1 this.2 (hne m hm)
  simp only [realTime, Bool.and_eq_true, decide_eq_true_eq]
  refine ⟨⟨⟨by omega, ?_⟩, ?_⟩, ?_⟩
  · rw [List.all_eq_true] at h2 ⊢
    intro x hx
    rcases List.mem_append.1 hx with hx | hx
    · exact h2 x (List.mem_of_mem_take hx)
    · exact h2 x (List.mem_of_mem_drop hx)
  · rw [orderOk_iff]
    refine ⟨by simp; omega, by rw [List.length_map]; omega, ?_, ?_⟩
    · intro y hy
      obtain ⟨m, hm, rfl⟩ := List.mem_map.1 hy
      have := k3 m (by simp [hm])
      have := hne m hm
      unfold without
      split <;> omega
    · unfold List.Nodup
      rw [List.pairwise_map]
      refine List.Pairwise.imp_of_mem ?_ hnd.1
      intro p q hp hq hpq
      have := hne p hp
      have := hne q hq
      unfold without
      split <;> split <;> omega
  · rw [rtI_map xs _ _ a hrd]; exact rtI_append xs a [z] h4
theorem FnRealTime : laws_FnRealTime.Pure := by
  intro l _ hl hw
  refine (laws_FnRealTime.fL_is l).rounds ?_
  rw [laws_FnRealTime.fL_eq]
  by_cases h : (l.length : Int) > 1048576
  · rw [if_pos h]
  · obtain ⟨xs, o, hdr, hxl, hol⟩ := drawRealTime hw
    rw [if_neg h, hdr, Option.bind_some]
    dsimp only
    rw [impl_RealTime_f, Option.bind_some, spec_RealTime_f, Option.bind_some, if_neg (by simp), impl_OrderValid_f, Option.bind_some]
    by_cases hok : orderOk xs.length o = true
    · obtain ⟨k1, k2, k3, k4⟩ := (orderOk_iff _ _).1 hok
      rw [if_pos hok, lawRealTime_l0 xs o (realTime xs o) k1 k3 o true 0 none (by omega) (by omega) (by simp) (fun _ => rfl) (fun h => by omega)]
      have hrise : ((true && riseFrom xs none o) && !realTime xs o) = false := by
        cases hr : riseFrom xs none o with
        | false => simp
        | true =>
          obtain ⟨r1, r2⟩ := rise_rtI xs o none hr
          rw [all_over hok] at r2
          have : realTime xs o = true := by
            simp only [realTime, r1, r2, hok, Bool.and_true, decide_eq_true_eq]; omega
          rw [this]; rfl
      have hj2 : laws_FnRealTime.j2L xs o true = some true := by rw [laws_FnRealTime.j2L_eq, if_pos rfl, laws_alive_f, Option.bind_some]
      rw [hrise, laws_FnRealTime.j1L_eq, if_neg (by simp)]
      cases hrt : realTime xs o with
      | false => rw [if_neg (by simp), hj2]
      | true =>
        rw [if_pos rfl]
        rcases List.eq_nil_or_concat o with rfl | ⟨a, z, rfl⟩
        · exact hj2
        · rw [List.concat_eq_append] at *
          have hlen : ((a ++ [z]).length : Int) = (a.length : Int) + 1 := by simp
          have hz := k3 z (by simp)
          have hrd : rd (a ++ [z]) (a.length : Int) = z := by
            unfold rd
            rw [List.getD_eq_getElem?_getD, List.getElem?_append_right (by simp)]; simp
          rw [show (((a ++ [z]).length : Int) == 0) = false by rw [beq_eq_false_iff_ne]; omega, laws_FnRealTime.j2L_eq, if_neg (by simp), hlen, w64 (by omega) (by omega), show (a.length : Int) + 1 - 1 = a.length by omega, if_pos (by omega), if_pos (by omega), Option.bind_some, hrd, if_pos hz.1, if_pos (by omega), Option.bind_some,
            if_pos (by simp; omega), Option.bind_some, w64 (by omega) (by omega), if_pos (by omega), if_pos (by omega), Option.bind_some, if_pos (by simp; omega), lawRealTime_l1 z _ (a ++ [z]) k1 (fun m hm => by have := k3 m hm; omega) a [] z 0 (by omega) (by simp) (by simp), impl_RealTime_f, Option.bind_some, List.nil_append, List.nil_append, realTime_less xs a z hrt]
    · have hrt : realTime xs o = false := by unfold realTime; rw [show orderOk xs.length o = false by simpa using hok]; simp
      rw [if_neg hok, hrt, if_neg (by simp), laws_alive_f, Option.bind_some]

end Go.Proofs.Ytfeeifefmenlmaa.Pure
