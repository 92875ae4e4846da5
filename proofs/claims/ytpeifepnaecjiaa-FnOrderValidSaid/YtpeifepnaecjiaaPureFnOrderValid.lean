/- Of a drawn order: the program's OrderValid is the reference's; without its last number it is no order of as many results, and reversed it is one of them exactly if it is. No condition. -/
import Derived.Test.YtpeifepnaecjiaaQFnOrderValid0
namespace Go.Proofs.Ytpeifepnaecjiaa.Pure
open Go.RowKit Go.Proofs.Ytpeifepnaecjiaa.PFnOrderValid Go.Proofs.YtpeifepnaecjiaaW.PrintWords Go.Proofs.YtpeifepnaecjiaaW.PrintLast Go.Proofs.YtpeifepnaecjiaaW.PrintMore Go.Proofs.Ytpeifepnaecjiaa.Lim
set_option linter.unusedVariables false
set_option linter.unusedSimpArgs false

theorem nodup_rev (l : List Int) : l.reverse.Nodup ↔ l.Nodup := by
  unfold List.Nodup
  rw [List.pairwise_reverse]
  constructor
  · exact fun h => h.imp fun h => h.symm
  · exact fun h => h.imp fun h => h.symm
theorem rd_get {xs : List Int} {i : Int} (h0 : 0 ≤ i) (h1 : i < xs.length) : xs.drop i.toNat = rd xs i :: xs.drop (i.toNat + 1) := by
  unfold rd
  rw [List.drop_eq_getElem_cons (by omega), List.getD_eq_getElem?_getD, List.getElem?_eq_getElem (by omega)]; rfl
theorem l20Order_l1 {b : List Int} (hb : Code b) (n : Int) (hn : 0 ≤ n) (hn2 : n ≤ 100) : ∀ (m : Nat) (out : List Int) (i p : Int), i + m = n → 0 ≤ i → (out.length : Int) = n → 0 ≤ p → p + m ≤ 1000000 → ∃ r q, spec_l20Order.l1L n 4 out i b p = some (r, q) ∧ r.length ≤ 200
  | 0, out, i, p, h, h0, hl, hp, hp2 => by
    obtain ⟨v, q, hv, q0, q1⟩ := odd_ok hb p 4 hp (by omega) (by omega)
    rw [spec_l20Order.l1L_eq, if_neg (by omega), hv, Option.bind_some]
    cases v with
    | true =>
      obtain ⟨u, hu, u0, u1, _⟩ := pick_ok hb q 3 (by omega) (by omega) (by omega)
      have u1 := u1 (by omega)
      rw [if_pos rfl, Option.bind_some]
      dsimp only
      rw [hu, Option.bind_some]
      dsimp only
      rw [if_pos u0, if_pos (by simp; omega), if_pos (by omega)]
      exact ⟨_, _, rfl, by simp; omega⟩
    | false => rw [if_neg (by simp)]; exact ⟨_, _, rfl, by omega⟩
  | m + 1, out, i, p, h, h0, hl, hp, hp2 => by
    obtain ⟨u, hu, u0, u1, _⟩ := pick_ok hb p n hp (by omega) (by omega)
    have u1 := u1 (by omega)
    rw [spec_l20Order.l1L_eq, if_pos (by omega), hu, Option.bind_some]
    dsimp only
    rw [if_pos h0, if_pos (by omega), if_pos u0, if_pos (by omega), w64 (by omega) (by omega)]
    exact l20Order_l1 hb n hn hn2 m _ (i + 1) (p + 1) (by omega) (by omega) (by simpa using hl) (by omega) (by omega)
theorem l20Order_l0 {b : List Int} (hb : Code b) (n : Int) (hn : 0 ≤ n) (hn2 : n ≤ 100) : ∀ (m : Nat) (out : List Int) (i p : Int), i + m = n → 0 ≤ i → (out.length : Int) = i → 0 ≤ p → p ≤ 1000 → ∃ r q, spec_l20Order.l0L n 4 out i b p = some (r, q) ∧ r.length ≤ 200
  | 0, out, i, p, h, h0, hl, hp, hp2 => by
    rw [spec_l20Order.l0L_eq, if_neg (by omega)]
    exact l20Order_l1 hb n hn hn2 n.toNat out 0 p (by omega) (by omega) (by omega) hp (by omega)
  | m + 1, out, i, p, h, h0, hl, hp, hp2 => by
    rw [spec_l20Order.l0L_eq, if_pos (by omega), if_pos (by omega), w64 (by omega) (by omega)]
    exact l20Order_l0 hb n hn hn2 m _ (i + 1) p (by omega) (by omega) (by simp; omega) hp hp2
theorem drawOrderValid {l : List Int} (hw : ∀ x ∈ l, (Lit.int .u8 x).wf = true) : ∃ n xs, spec_DrawOrderValid.fL l = some (n, xs) ∧ xs.length ≤ 200 := by
  have hc := Code.take hw
  obtain ⟨v, hv, v0, v1, _⟩ := pick_ok hc 0 7 (by omega) (by omega) (by omega)
  obtain ⟨u, hu, u0, u1, _⟩ := pick_ok hc (0 + 1) 12 (by omega) (by omega) (by omega)
  have v1 := v1 (by omega)
  obtain ⟨xs, q, hx, hxl⟩ := l20Order_l0 hc v v0 (by omega) v.toNat [] 0 (0 + 1 + 1) (by omega) (by omega) (by simp) (by omega) (by omega)
  rw [spec_DrawOrderValid.fL_eq, spec_l20Open_f, Option.bind_some]
  dsimp only
  rw [hv, Option.bind_some]
  dsimp only
  rw [hu, Option.bind_some]
  dsimp only
  rw [spec_l20Order.fL_eq, hx, Option.bind_some]
  exact ⟨_, _, rfl, hxl⟩
theorem lawOrderValid_l0 (n : Int) (xs : List Int) (hx : xs.length ≤ 200) (hx0 : 1 ≤ xs.length) : ∀ (m : Nat) (i : Int) (back : List Int), i + 1 = m → m ≤ xs.length → (back.length : Int) + m = xs.length → back = (xs.drop m).reverse → laws_FnOrderValid.l0L n xs (orderOk n xs) back i = some true
  | 0, i, back, h, hm, hl, hb => by
    rw [laws_FnOrderValid.l0L_eq, if_neg (by omega), w64 (by omega) (by omega), if_pos (by omega), if_pos (by omega), impl_OrderValid_f, Option.bind_some, impl_OrderValid_f, Option.bind_some, laws_alive_f, Option.bind_some]
    have h1 : orderOk (xs.length : Int) (xs.take ((xs.length : Int) - 1).toNat) = false := by
      rw [Bool.eq_false_iff]
      intro e
      have := ((orderOk_iff _ _).1 e).2.1
      rw [List.length_take] at this
      omega
    have h2 : orderOk n back = orderOk n xs := by
      rw [Bool.eq_iff_iff, orderOk_iff, orderOk_iff, hb]
      simp [nodup_rev]
    rw [h1, if_neg (by simp), h2, if_pos (by simp)]
  | m + 1, i, back, h, hm, hl, hb => by
    have hi := rd_get (xs := xs) (i := i) (by omega) (by omega)
    rw [laws_FnOrderValid.l0L_eq, if_pos (by omega), if_pos (by omega), if_pos (by omega), if_pos (by omega), w64 (by omega) (by omega)]
    refine lawOrderValid_l0 n xs hx hx0 m (i - 1) _ (by omega) (by omega) (by simp; omega) ?_
    rw [hb, show m = i.toNat by omega, hi]
    simp
theorem FnOrderValid : laws_FnOrderValid.Pure := by
  intro l _ hl hw
  refine (laws_FnOrderValid.fL_is l).rounds ?_
  rw [laws_FnOrderValid.fL_eq]
  by_cases h : (l.length : Int) > 1048576
  · rw [if_pos h]
  · obtain ⟨n, xs, hdr, hx⟩ := drawOrderValid hw
    rw [if_neg h, hdr, Option.bind_some]
    dsimp only
    rw [impl_OrderValid_f, Option.bind_some, spec_OrderValid_f, Option.bind_some, if_neg (by simp), laws_alive_f, Option.bind_some]
    by_cases e : (xs.length : Int) = 0
    · rw [if_pos e]
      have hx0 : xs = [] := List.eq_nil_of_length_eq_zero (by omega)
      have : (orderOk n xs == (n == 0)) = true := by
        rw [beq_iff_eq, Bool.eq_iff_iff, orderOk_iff, hx0]
        simp
        omega
      rw [if_pos this]
    · rw [if_neg e, w64 (by omega) (by omega)]
      exact lawOrderValid_l0 n xs hx (by omega) xs.length _ [] (by omega) (by omega) (by simp) (by simp)

end Go.Proofs.Ytpeifepnaecjiaa.Pure
