/- Of drawn tokens and drawn tries: the program's TokenRun is the reference's, all retries cost at most the tokens in the beginning and one for every success, and two parts of the tries lead to the same tokens. No condition. -/
import Derived.Test.YtpeifepnaecjiaaQFnTokenRun0
namespace Go.Proofs.Ytpeifepnaecjiaa.Pure
open Go.RowKit Go.Proofs.Ytpeifepnaecjiaa.PFnTokenRun Go.Proofs.YtpeifepnaecjiaaW.PrintWords Go.Proofs.YtpeifepnaecjiaaW.PrintLast Go.Proofs.YtpeifepnaecjiaaW.PrintMore Go.Proofs.Ytpeifepnaecjiaa.Lim
set_option linter.unusedVariables false
set_option linter.unusedSimpArgs false

theorem drawTokenRun_l0 {b : List Int} (hb : Code b) (t : Int) : ∀ (m : Nat) (out : List Bool) (n p : Int), n = m → (out.length : Int) + n ≤ 100000 → 0 ≤ p → p + n ≤ 100000000 → ∃ l, spec_DrawTokenRun.l0L t out n b p = some (t, l) ∧ l.length ≤ 100000
  | 0, out, n, p, h1, h2, h3, h4 => by
    obtain ⟨v, hv, _⟩ := pick_ok hb p 20 h3 (by omega) (by omega)
    rw [spec_DrawTokenRun.l0L_eq, if_neg (by omega), hv, Option.bind_some]
    dsimp only
    by_cases e : v = 19
    · rw [if_pos e, if_pos (by omega)]; exact ⟨_, rfl, by rw [List.length_replicate]; omega⟩
    · rw [if_neg e]; exact ⟨_, rfl, by omega⟩
  | m + 1, out, n, p, h1, h2, h3, h4 => by
    obtain ⟨v, hv, _⟩ := pick_ok hb p 3 h3 (by omega) (by omega)
    rw [spec_DrawTokenRun.l0L_eq, if_pos (by omega), hv, Option.bind_some, if_pos (by omega), w64 (by omega) (by omega)]
    exact drawTokenRun_l0 hb t m _ (n - 1) (p + 1) (by omega) (by simp; omega) (by omega) (by omega)
theorem drawTokenRun {l : List Int} (hw : ∀ x ∈ l, (Lit.int .u8 x).wf = true) : ∃ t xs, spec_DrawTokenRun.fL l = some (t, xs) ∧ -1 ≤ t ∧ t ≤ 100 ∧ xs.length ≤ 100000 := by
  have hc := Code.take hw
  obtain ⟨v, hv, v0, v1, _⟩ := pick_ok hc 0 13 (by omega) (by omega) (by omega)
  obtain ⟨u, hu, u0, u1, _⟩ := pick_ok hc (0 + 1) 30 (by omega) (by omega) (by omega)
  have v1 := v1 (by omega)
  have u1 := u1 (by omega)
  rw [spec_DrawTokenRun.fL_eq, spec_l20Open_f, Option.bind_some]
  dsimp only
  rw [hv, Option.bind_some]
  dsimp only
  rw [hu, Option.bind_some]
  dsimp only
  rw [w64 (by omega) (by omega)]
  obtain ⟨xs, hx, hxl⟩ := drawTokenRun_l0 hc (v - 1) u.toNat [] u (0 + 1 + 1) (by omega) (by simp; omega) (by omega) (by omega)
  exact ⟨_, _, hx, by omega, by omega, hxl⟩
/-- How many successes there are. -/
def wins : List Bool → Int
  | [] => 0
  | b :: bs => (if b = true then 1 else 0) + wins bs
theorem tokRun_app : ∀ (xs ys : List Bool) (t n : Int), tokRun (xs ++ ys) t n = tokRun ys (tokRun xs t n).1 (tokRun xs t n).2
  | [], ys, t, n => rfl
  | x :: xs, ys, t, n => by simp only [List.cons_append, tokRun]; exact tokRun_app xs ys _ _
theorem tokRun_add : ∀ (xs : List Bool) (t n m : Int), tokRun xs t (n + m) = ((tokRun xs t n).1, (tokRun xs t n).2 + m)
  | [], t, n, m => rfl
  | x :: xs, t, n, m => by
    simp only [tokRun]
    rw [← tokRun_add xs _ _ m]
    congr 1
    split <;> omega
theorem tokRun_range : ∀ (xs : List Bool) (t n : Int), 0 ≤ t → t ≤ 10 → 0 ≤ n → 0 ≤ (tokRun xs t n).1 ∧ (tokRun xs t n).1 ≤ 10 ∧ n ≤ (tokRun xs t n).2 ∧ (tokRun xs t n).2 ≤ n + xs.length
  | [], t, n, h0, h1, h2 => by simp only [tokRun]; exact ⟨h0, h1, by omega, by simp⟩
  | x :: xs, t, n, h0, h1, h2 => by
    have hs := tokStep_range t x h0 h1
    have := tokRun_range xs (tokStep t x).1 (if (tokStep t x).2 = true then n + 1 else n) hs.1 hs.2 (by split <;> omega)
    simp only [tokRun, List.length_cons]
    split at this <;> rename_i e
    · rw [if_pos e]; omega
    · rw [if_neg e]; omega
theorem tokRun_paid : ∀ (xs : List Bool) (t n : Int), 0 ≤ t → t ≤ 10 → (tokRun xs t n).1 + 3 * (tokRun xs t n).2 ≤ t + 3 * n + wins xs
  | [], t, n, h0, h1 => by simp only [tokRun, wins]; omega
  | x :: xs, t, n, h0, h1 => by
    have hs := tokStep_range t x h0 h1
    have ih := tokRun_paid xs (tokStep t x).1 (if (tokStep t x).2 = true then n + 1 else n) hs.1 hs.2
    have h3 : (tokStep t x).1 + 3 * (if (tokStep t x).2 = true then n + 1 else n) ≤ t + 3 * n + (if x = true then 1 else 0) := by
      unfold tokStep
      rw [if_neg (by omega)]
      cases x with
      | true => simp; split <;> omega
      | false =>
        simp
        by_cases e : 3 ≤ t
        · rw [if_pos e]; simp; omega
        · rw [if_neg e]; simp
    simp only [tokRun, wins]
    omega
theorem wins_range : ∀ xs : List Bool, 0 ≤ wins xs ∧ wins xs ≤ xs.length
  | [] => by simp [wins]
  | x :: xs => by have := wins_range xs; simp only [wins, List.length_cons]; split <;> omega
theorem lawTokenRun_l0 (t : Int) (xs : List Bool) (ht : 0 ≤ t) (ht2 : t ≤ 10) (hx : xs.length ≤ 200) : ∀ (ys : List Bool) (i c : Int), 0 ≤ i → i ≤ xs.length → xs.drop i.toNat = ys → 0 ≤ c → c ≤ i → c + wins ys = wins xs → laws_FnTokenRun.l0L t xs (tokRun xs t 0).1 (tokRun xs t 0).2 c i = some true
  | [], i, c, h0, h1, hd, hc, hc2, hcw => by
    have hi := drop_nil h0 h1 hd
    have hr := tokRun_range xs t 0 ht ht2 (by omega)
    have hp := tokRun_paid xs t 0 ht ht2
    have hd2 : (xs.length : Int) / 2 ≤ xs.length := by omega
    rw [laws_FnTokenRun.l0L_eq, if_neg (by omega), w64 (n := (xs.length : Int) / 2) (by omega) (by omega), if_pos (by omega), if_pos (by omega), impl_TokenRun_f, Option.bind_some]
    have hrA := tokRun_range (xs.take ((xs.length : Int) / 2).toNat) t 0 ht ht2 (by omega)
    have eA : tokenRun t (xs.take ((xs.length : Int) / 2).toNat) = tokRun (xs.take ((xs.length : Int) / 2).toNat) t 0 := by
      unfold tokenRun; rw [if_pos ⟨ht, ht2, by rw [List.length_take]; omega⟩]
    rw [eA, impl_TokenRun_f, Option.bind_some]
    have hrB := tokRun_range (xs.drop ((xs.length : Int) / 2).toNat) (tokRun (xs.take ((xs.length : Int) / 2).toNat) t 0).1 0 hrA.1 hrA.2.1 (by omega)
    have eB : tokenRun (tokRun (xs.take ((xs.length : Int) / 2).toNat) t 0).1 (xs.drop ((xs.length : Int) / 2).toNat) = tokRun (xs.drop ((xs.length : Int) / 2).toNat) (tokRun (xs.take ((xs.length : Int) / 2).toNat) t 0).1 0 := by
      unfold tokenRun; rw [if_pos ⟨hrA.1, hrA.2.1, by rw [List.length_drop]; omega⟩]
    rw [eB]
    have happ := tokRun_app (xs.take ((xs.length : Int) / 2).toNat) (xs.drop ((xs.length : Int) / 2).toNat) t 0
    rw [List.take_append_drop] at happ
    have hadd := tokRun_add (xs.drop ((xs.length : Int) / 2).toNat) (tokRun (xs.take ((xs.length : Int) / 2).toNat) t 0).1 0 (tokRun (xs.take ((xs.length : Int) / 2).toNat) t 0).2
    rw [Int.zero_add] at hadd
    rw [hadd] at happ
    have hl1 : (xs.take ((xs.length : Int) / 2).toNat).length ≤ 200 := by rw [List.length_take]; omega
    have hl2 : (xs.drop ((xs.length : Int) / 2).toNat).length ≤ 200 := by rw [List.length_drop]; omega
    have e1 := congrArg Prod.fst happ
    have e2 := congrArg Prod.snd happ
    dsimp only at e1 e2
    simp only [wins] at hcw
    rw [w64 (by omega) (by omega), w64 (by omega) (by omega), w64 (by omega) (by omega), if_pos (by omega), if_pos e1.symm]
    congr 1
    rw [beq_iff_eq]
    omega
  | y :: ys, i, c, h0, h1, hd, hc, hc2, hcw => by
    obtain ⟨hr, hl, hd'⟩ := rdOf_drop (d := false) h0 hd
    simp only [wins] at hcw
    rw [laws_FnTokenRun.l0L_eq, if_pos hl, if_pos h0, hr, w64 (n := i + 1) (by omega) (by omega), w64 (n := c + 1) (by omega) (by omega)]
    cases y with
    | true => rw [if_pos rfl]; exact lawTokenRun_l0 t xs ht ht2 hx ys (i + 1) (c + 1) (by omega) (by omega) hd' (by omega) (by omega) (by simp at hcw; omega)
    | false => rw [if_neg (by simp)]; exact lawTokenRun_l0 t xs ht ht2 hx ys (i + 1) c (by omega) (by omega) hd' (by omega) (by omega) (by simp at hcw; omega)
theorem FnTokenRun : laws_FnTokenRun.Pure := by
  intro l _ hl hw
  refine (laws_FnTokenRun.fL_is l).rounds ?_
  rw [laws_FnTokenRun.fL_eq]
  by_cases h : (l.length : Int) > 1048576
  · rw [if_pos h]
  · obtain ⟨t, xs, hdr, t0, t1, hx⟩ := drawTokenRun hw
    rw [if_neg h, hdr, Option.bind_some]
    dsimp only
    rw [impl_TokenRun_f, Option.bind_some, spec_TokenRun_f, Option.bind_some, if_pos rfl, laws_FnTokenRun.j0L_eq, if_neg (by simp), laws_alive_f, Option.bind_some]
    by_cases e : 0 ≤ t ∧ t ≤ 10 ∧ xs.length ≤ 200
    · have e1 : tokenRun t xs = tokRun xs t 0 := by unfold tokenRun; rw [if_pos e]
      have hr := tokRun_range xs t 0 e.1 e.2.1 (by omega)
      rw [e1, if_neg (by omega)]
      exact lawTokenRun_l0 t xs e.1 e.2.1 e.2.2 xs 0 0 (by omega) (by omega) (by simp) (by omega) (by omega) (by omega)
    · have e1 : tokenRun t xs = (-1, -1) := by unfold tokenRun; rw [if_neg e]
      rw [e1]; rfl

end Go.Proofs.Ytpeifepnaecjiaa.Pure
