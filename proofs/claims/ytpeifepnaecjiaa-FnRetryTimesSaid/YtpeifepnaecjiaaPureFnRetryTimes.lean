/- Of a drawn time and number: the program's RetryTimes is the reference's, each try is later than the one before by Backoff of its number, the first one is at the time, and with one try more the earlier ones are the same. No condition. -/
import Derived.Test.YtpeifepnaecjiaaQFnRetryTimes0
namespace Go.Proofs.Ytpeifepnaecjiaa.Pure
open Go.RowKit Go.Proofs.Ytpeifepnaecjiaa.PFnRetryTimes Go.Proofs.YtpeifepnaecjiaaW.PrintWords Go.Proofs.YtpeifepnaecjiaaW.PrintLast Go.Proofs.YtpeifepnaecjiaaW.PrintMore Go.Proofs.Ytpeifepnaecjiaa.Lim
set_option linter.unusedVariables false
set_option linter.unusedSimpArgs false

theorem lit4 (a b c : Int) (l : List Int) (hl : l = [a, b, c, -1]) (j : Int) (h0 : 0 ≤ j) (h1 : j < 4) (P : Int → Prop) (ha : P a) (hb : P b) (hc : P c) (hd : P (-1)) : P (rd l j) := by
  subst hl
  have : j = 0 ∨ j = 1 ∨ j = 2 ∨ j = 3 := by omega
  rcases this with rfl | rfl | rfl | rfl
  · exact ha
  · exact hb
  · exact hc
  · exact hd
theorem pick8 (j : Int) (h0 : 0 ≤ j) (h1 : j < 8) : 0 ≤ rd [0, 0, 0, 1, 1, 1, 2, 3] j ∧ rd [0, 0, 0, 1, 1, 1, 2, 3] j < 4 := by
  have : j = 0 ∨ j = 1 ∨ j = 2 ∨ j = 3 ∨ j = 4 ∨ j = 5 ∨ j = 6 ∨ j = 7 := by omega
  rcases this with rfl | rfl | rfl | rfl | rfl | rfl | rfl | rfl <;> decide
theorem drawRetryTimes {l : List Int} (hw : ∀ x ∈ l, (Lit.int .u8 x).wf = true) : ∃ t n, spec_DrawRetryTimes.fL l = some (t, n) ∧ -1000 ≤ t ∧ t ≤ 1000 ∧ -1 ≤ n ∧ n ≤ 12 := by
  have hc := Code.take hw
  obtain ⟨v, hv, v0, v1, _⟩ := pick_ok hc 0 60 (by omega) (by omega) (by omega)
  obtain ⟨u, hu, u0, u1, _⟩ := pick_ok hc (0 + 1) 70 (by omega) (by omega) (by omega)
  obtain ⟨x, hx, x0, x1, _⟩ := pick_ok hc (0 + 1 + 1) 8 (by omega) (by omega) (by omega)
  obtain ⟨z, hz, z0, z1, _⟩ := pick_ok hc (0 + 1 + 1 + 1) 13 (by omega) (by omega) (by omega)
  have v1 := v1 (by omega)
  have u1 := u1 (by omega)
  have x1 := x1 (by omega)
  have z1 := z1 (by omega)
  have h8 := pick8 x x0 x1
  rw [spec_DrawRetryTimes.fL_eq, spec_l20Open_f, Option.bind_some]
  dsimp only
  rw [hv, Option.bind_some]
  dsimp only
  rw [hu, Option.bind_some]
  dsimp only
  rw [Option.bind_some, Option.bind_some, hx, Option.bind_some]
  dsimp only
  rw [if_pos x0, if_pos (by simp; omega), if_pos h8.1, if_pos (by simp; omega), hz, Option.bind_some, w64 (n := 200 - u) (by omega) (by omega), w64 (by omega) (by omega)]
  have hr := lit4 v (200 - u) 201 _ rfl _ h8.1 h8.2 (fun t => -1000 ≤ t ∧ t ≤ 1000) (by omega) (by omega) (by omega) (by omega)
  exact ⟨_, _, rfl, hr.1, hr.2, by dsimp only; omega, by dsimp only; omega⟩
theorem times_step : ∀ (m : Nat) (t n : Int) (j : Nat) (hj : j + 1 < (times m t n).length), (times m t n)[j + 1] - (times m t n)[j] = backoff (n + j) ∧ (times m t n)[j + 1] ≤ 200
  | 0, t, n, j, hj => by simp [times] at hj
  | m + 1, t, n, j, hj => by
    by_cases e : t ≤ 200
    · have h : times (m + 1) t n = t :: times m (t + backoff n) (n + 1) := by simp only [times]; rw [if_pos e]
      simp only [h, List.length_cons] at hj ⊢
      cases j with
      | zero =>
        cases m with
        | zero => simp [times] at hj
        | succ m =>
          by_cases e2 : t + backoff n ≤ 200
          · have h2 : times (m + 1) (t + backoff n) (n + 1) = (t + backoff n) :: times m (t + backoff n + backoff (n + 1)) (n + 1 + 1) := by simp only [times]; rw [if_pos e2]
            simp only [h2, List.getElem_cons_succ, List.getElem_cons_zero]
            constructor
            · simp; omega
            · exact e2
          · have h2 : times (m + 1) (t + backoff n) (n + 1) = [] := by simp only [times]; rw [if_neg e2]
            rw [h2] at hj; simp at hj
      | succ j =>
        have := times_step m (t + backoff n) (n + 1) j (by omega)
        simp only [List.getElem_cons_succ]
        rw [show n + ((j + 1 : Nat) : Int) = n + 1 + (j : Int) by omega]
        exact this
    · have h : times (m + 1) t n = [] := by simp only [times]; rw [if_neg e]
      rw [h] at hj; simp at hj
theorem times_more : ∀ (m : Nat) (t n : Int), (times (m + 1) t n).take (times m t n).length = times m t n ∧ (times m t n).length ≤ (times (m + 1) t n).length
  | 0, t, n => by simp [times]
  | m + 1, t, n => by
    have ih := times_more m (t + backoff n) (n + 1)
    by_cases e : t ≤ 200
    · have h : ∀ m, times (m + 1) t n = t :: times m (t + backoff n) (n + 1) := by intro m; simp only [times]; rw [if_pos e]
      rw [h (m + 1), h m]
      simp only [List.length_cons, List.take_succ_cons]
      exact ⟨by rw [ih.1], by omega⟩
    · have h : ∀ m, times (m + 1) t n = [] := by intro m; simp only [times]; rw [if_neg e]
      rw [h (m + 1), h m]; simp
theorem rd_getElem {xs : List Int} {i : Int} (h1 : i.toNat < xs.length) : rd xs i = xs[i.toNat] := by
  unfold rd; rw [List.getD_eq_getElem?_getD, List.getElem?_eq_getElem h1]; rfl
theorem lawRetryTimes_l0 (t many : Int) (ht : 0 ≤ t) (ht2 : t ≤ 200) (hm : 0 ≤ many) (hm2 : many ≤ 10) (hne : 0 < (times many.toNat t 1).length) : ∀ (d : Nat) (i : Int), i + d = (times many.toNat t 1).length → 1 ≤ i → laws_FnRetryTimes.l0L t many (times many.toNat t 1) i = some true
  | 0, i, h, h1 => by
    have hl := times_length many.toNat t 1
    have hz : rd (times many.toNat t 1) 0 = t := by
      cases hm0 : many.toNat with
      | zero => rw [hm0] at hne; simp [times] at hne
      | succ m => simp only [times]; rw [if_pos ht2]; rfl
    rw [laws_FnRetryTimes.l0L_eq, if_neg (by omega), w64 (by omega) (by omega), impl_RetryTimes_f, Option.bind_some, if_pos (by omega), if_pos hz, if_pos (by omega)]
    by_cases e : many = 10
    · rw [if_pos e]
    · have e1 : retryTimes t (many + 1) = times (many.toNat + 1) t 1 := by
        unfold retryTimes; rw [if_pos (by omega), show (many + 1).toNat = many.toNat + 1 by omega]
      have hmore := times_more many.toNat t 1
      have hl2 := times_length (many.toNat + 1) t 1
      rw [if_neg e, e1, if_pos (by omega), if_pos (by omega), if_pos (by omega), Int.toNat_natCast, hmore.1, laws_sameInts_f _ _ (by omega), Option.bind_some]
      simp
  | d + 1, i, h, h1 => by
    have hl := times_length many.toNat t 1
    have hs := times_step many.toNat t 1 (i - 1).toNat (by omega)
    have r1 := rd_getElem (xs := times many.toNat t 1) (i := i) (by omega)
    have r2 := rd_getElem (xs := times many.toNat t 1) (i := i - 1) (by omega)
    have hb := backoff_range i h1 (by omega)
    have e1 : rd (times many.toNat t 1) i - rd (times many.toNat t 1) (i - 1) = backoff i := by
      rw [r1, r2]
      have := hs.1
      simp only [show (i - 1).toNat + 1 = i.toNat by omega] at this
      rw [this, show (1 : Int) + ((i - 1).toNat : Int) = i by omega]
    have e2 : rd (times many.toNat t 1) i ≤ 200 := by
      rw [r1]
      have := hs.2
      simp only [show (i - 1).toNat + 1 = i.toNat by omega] at this
      exact this
    rw [laws_FnRetryTimes.l0L_eq, if_pos (by omega), if_pos (by omega), w64 (n := i - 1) (by omega) (by omega), if_pos (by omega), if_pos (by omega), impl_Backoff_f i (by omega) (by omega), Option.bind_some, e1, w64 (n := backoff i) (by omega) (by omega), if_pos rfl, if_neg (by omega), w64 (by omega) (by omega)]
    exact lawRetryTimes_l0 t many ht ht2 hm hm2 hne d (i + 1) (by omega) (by omega)
theorem FnRetryTimes : laws_FnRetryTimes.Pure := by
  intro l _ hl hw
  refine (laws_FnRetryTimes.fL_is l).rounds ?_
  rw [laws_FnRetryTimes.fL_eq]
  by_cases h : (l.length : Int) > 1048576
  · rw [if_pos h]
  · obtain ⟨t, n, hdr, t0, t1, n0, n1⟩ := drawRetryTimes hw
    have hlen := retryTimes_length t n
    rw [if_neg h, hdr, Option.bind_some]
    dsimp only
    rw [impl_RetryTimes_f, Option.bind_some, spec_RetryTimes_f, Option.bind_some, laws_sameInts_f _ _ (by omega), Option.bind_some, if_pos (by simp), laws_alive_f, Option.bind_some]
    by_cases e : 0 ≤ t ∧ t ≤ 200 ∧ 0 ≤ n ∧ n ≤ 10
    · have e1 : retryTimes t n = times n.toNat t 1 := by unfold retryTimes; rw [if_pos e]
      rw [e1]
      by_cases e0 : ((times n.toNat t 1).length : Int) = 0
      · rw [if_pos e0]
        have : n ≤ 0 := by
          cases hn : n.toNat with
          | zero => omega
          | succ m =>
            exfalso
            rw [hn] at e0
            simp only [times] at e0
            rw [if_pos e.2.1] at e0
            simp at e0
            omega
        rw [if_pos this]
      · rw [if_neg e0]
        exact lawRetryTimes_l0 t n e.1 e.2.1 e.2.2.1 e.2.2.2 (by omega) ((times n.toNat t 1).length - 1) 1 (by omega) (by omega)
    · have e1 : retryTimes t n = [] := by unfold retryTimes; rw [if_neg e]
      rw [e1, if_pos (show (([] : List Int).length : Int) = 0 from rfl)]
      by_cases c1 : n ≤ 0
      · rw [if_pos c1]
      · rw [if_neg c1]
        by_cases c2 : n > 10
        · rw [if_pos c2]
        · rw [if_neg c2]
          by_cases c3 : t < 0
          · rw [if_pos c3]
          · rw [if_neg c3, if_pos (by omega)]

end Go.Proofs.Ytpeifepnaecjiaa.Pure
