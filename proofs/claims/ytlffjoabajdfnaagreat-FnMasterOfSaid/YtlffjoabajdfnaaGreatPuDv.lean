/- What is drawn without faults is valid. No condition. -/
import Derived.Test.YtlffjoabajdfnaaGreatPuDr
import Derived.Test.YtlffjoabajdfnaaGreatPuFe
set_option linter.unusedVariables false
set_option linter.unusedSimpArgs false
namespace Go.Proofs.YtlffjoabajdfnaaGreat.Ev
open Go.Proofs.YtlffjoabajdfnaaGreat.Eng
open Go.RowKit (wrap64)
/-! ### Keys, values -/
theorem odd0 (r : spec_l20Rd) : spec_l20Rd_odd r 0 = some (false, (r, ())) := by rw [spec_l20Rd_odd_eq, cond_dec, if_neg (by omega)]
theorem rd_all {α : Type} {d : α} {P : α → Prop} {l : List α} {i : Int} (h0 : 0 ≤ i) (hi : i < l.length) (h : ∀ x ∈ l, P x) : P (rdAt l i.toNat d) := h _ (rd_mem h0 hi)
theorem bs_app (a b : ByteArray) : bs (a ++ b) = bs a ++ bs b := by simp [bs, ByteArray.data_append]
theorem bs_one {c : Int} (h0 : 0 ≤ c) (h1 : c ≤ 255) : bs (strOfInts [c]) = [c] := by
  simp [bs, strOfInts]; omega
theorem letters_app (a b : List Int) : letters (a ++ b) = (letters a && letters b) := by simp [letters]
theorem key7_v {n : Int} (hn : n ≤ 900000000) : ∀ (k : Nat) (s : ByteArray) (r : spec_l20Rd), k ≤ 2 → Rdr (n - k) r → 1 ≤ s.size + k → s.size + k ≤ 4 → letters (bs s) = true → Tot (spec_l20Key_7 s (k : Int) r) (fun x => keyOk x.1 = true ∧ Rdr n x.2.1)
  | 0, s, r, hk, h, h1, h4, hl => by
    rw [spec_l20Key_7_eq, cond_dec, if_neg (by omega)]
    exact Tot.val ⟨by unfold keyOk; rw [hl, decide_eq_true (p := 1 ≤ s.size ∧ s.size ≤ 4) (by omega)]; rfl, h.up (by omega)⟩
  | k + 1, s, r, hk, h, h1, h4, hl => by
    rw [spec_l20Key_7_eq]
    simp only [cond_dec, if_pos (show (0 : Int) < ((k + 1 : Nat) : Int) by omega), w64 (n := ((k + 1 : Nat) : Int) - 1) (by omega) (by omega)]
    refine (pick_t h (by omega) (by omega)).bind fun x hx => ?_
    have x1 := hx.1.2 (by omega)
    have x0 := hx.1.1
    refine Tot.chk (by rw [sonSize]; simp only [List.length_cons, List.length_nil]; omega) ?_
    rw [show ((k + 1 : Nat) : Int) - 1 = (k : Int) by omega]
    have e : IntKind.u8.wrap (wrap64 (97 + x.1)) = 97 + x.1 := by
      rw [w64 (by omega) (by omega)]
      exact Int.emod_eq_of_lt (by omega) (show 97 + x.1 < 256 by omega)
    have sz : (strOfInts [IntKind.u8.wrap (wrap64 (97 + x.1))]).size = 1 := by rw [sonSize]; rfl
    refine key7_v hn k _ _ (by omega) (hx.2.up (by omega)) ?_ ?_ ?_
    · rw [ByteArray.size_append]; omega
    · rw [ByteArray.size_append]; omega
    · rw [bs_app, letters_app, hl, e, bs_one (by omega) (by omega), letters_cons, decide_eq_true (by omega)]; rfl
theorem key_v {n : Int} {r : spec_l20Rd} (h : Rdr n r) (hn : n ≤ 800000000) : Tot (spec_l20Key r 0) (fun x => keyOk x.1 = true ∧ Rdr (n + 5) x.2.1) := by
  rw [spec_l20Key_eq]
  simp only [cond_dec, odd0, Option.bind_some, cond_false]
  refine (pick_t h (by omega) (by omega)).bind fun y hy => Tot.ite (fun _ => ?_) fun _ => ?_
  · refine (pick_t hy.2 (by omega) (by omega)).bind fun z hz => ?_
    have hl := hz.1.2 (by omega)
    refine Tot.chk hz.1.1 (Tot.chk (by simp; omega) (Tot.val ⟨rd_all (P := fun x => keyOk x = true) hz.1.1 (by simp; omega) ?_, hz.2.up (by omega)⟩))
    intro x hx
    simp only [List.mem_cons, List.not_mem_nil, or_false] at hx
    rcases hx with rfl | rfl | rfl | rfl | rfl <;> rfl
  · refine (pick_t hy.2 (by omega) (by omega)).bind fun z hz => ?_
    have := hz.1.2 (by omega)
    have h0 := hz.1.1
    rw [w64 (n := 1 + z.1) (by omega) (by omega), show 1 + z.1 = ((1 + z.1).toNat : Int) by omega]
    have hs : es.size = 0 := rfl
    exact key7_v (n := n + 5) (by omega) _ es _ (by omega) (hz.2.up (by omega)) (by omega) (by omega) rfl
theorem value_v {n : Int} {r : spec_l20Rd} (h : Rdr n r) (hn : n ≤ 800000000) : Tot (spec_l20Value r 0) (fun x => (0 ≤ x.1 ∧ x.1 ≤ 999) ∧ Rdr (n + 3) x.2.1) := by
  rw [spec_l20Value_eq]
  simp only [cond_dec, odd0, Option.bind_some, cond_false]
  refine (pick_t h (by omega) (by omega)).bind fun y hy => (pick_t hy.2 (by omega) (by omega)).bind fun z hz => ?_
  have h1 := hz.1.2 (by omega)
  have y1 := hy.1.2 (by omega)
  have y0 := hy.1.1
  have hd : Int.tdiv z.1 8 = z.1 / 8 := Int.tdiv_eq_ediv_of_nonneg hz.1.1
  have h0 := hz.1.1
  rw [hd, w64 (n := z.1 / 8) (by omega) (by omega)]
  refine Tot.chk (by omega) (Tot.chk (by simp; omega) (Tot.val ⟨rd_all (P := fun x => 0 ≤ x ∧ x ≤ 999) (by omega) (by simp; omega) ?_, hz.2.up (by omega)⟩))
  intro x hx
  simp only [List.mem_cons, List.not_mem_nil, or_false] at hx
  rcases hx with rfl | rfl <;> omega
/-! ### Intervals -/
theorem keyOk_ne {k : ByteArray} (h : keyOk k = true) : k ≠ es := fun e => by subst e; cases h
theorem sLt_es {b : ByteArray} (h : keyOk b = true) : sLt es b = true := by
  have hn := keyOk_ne h
  have e1 : es.toList = [] := by rw [toList_data]; rfl
  unfold sLt
  rw [e1]
  cases e : b.toList with
  | nil => exact absurd ((toList_eq_iff _ _).1 (e.trans e1.symm)) hn
  | cons x l => rfl
/-! ### Commands, entries -/
theorem tmod_le {a : Int} (h0 : 0 ≤ a) (h1 : a ≤ 999) : Int.tmod a 1000 = a := by rw [Int.tmod_eq_emod_of_nonneg h0]; omega
theorem cmd_v {n : Int} {r : spec_l20Rd} (h : Rdr n r) (hn : n ≤ 700000000) : Tot (spec_l20Cmd r 0) (fun x => cmdOk x.1 = true ∧ Rdr (n + 14) x.2.1) := by
  rw [spec_l20Cmd_eq]
  simp only [cond_dec, odd0, Option.bind_some, cond_false]
  have rest : ∀ {k : ByteArray} {r' : spec_l20Rd}, keyOk k = true → Rdr (n + 8) r' → Tot ((spec_l20Rd_pick r' 8).bind fun v => if v.1 = 0 then some (impl_Command.mk 1 k 0 0, v.2.1, ()) else if v.1 = 1 then some (impl_Command.mk 3 k 0 0, v.2.1, ()) else if v.1 = 2 then (spec_l20Rd_pick v.2.1 5).bind fun a => (spec_l20Rd_pick a.2.1 5).bind fun b => some (impl_Command.mk 4 k b.1 (wrap64 (a.1 - 1)), b.2.1, ()) else (spec_l20Value v.2.1 0).bind fun a => some (impl_Command.mk 2 k (Int.tmod a.1 1000) 0, a.2.1, ())) (fun x => cmdOk x.1 = true ∧ Rdr (n + 14) x.2.1) := by
    intro k r' hk hr
    refine (pick_t hr (by omega) (by omega)).bind fun v hv => Tot.ite (fun _ => Tot.val ⟨?_, hv.2.up (by omega)⟩) fun _ => Tot.ite (fun _ => Tot.val ⟨?_, hv.2.up (by omega)⟩) fun _ => Tot.ite (fun _ => ?_) fun _ => ?_
    · simp [cmdOk, hk]
    · simp [cmdOk, hk]
    · refine (pick_t hv.2 (by omega) (by omega)).bind fun a ha => (pick_t ha.2 (by omega) (by omega)).bind fun b hb => Tot.val ⟨?_, hb.2.up (by omega)⟩
      have a1 := ha.1.2 (by omega)
      have a0 := ha.1.1
      have b1 := hb.1.2 (by omega)
      have b0 := hb.1.1
      rw [w64 (n := a.1 - 1) (by omega) (by omega)]
      simp [cmdOk, hk]; omega
    · refine (value_v hv.2 (by omega)).bind fun a ha => Tot.val ⟨?_, ha.2.up (by omega)⟩
      rw [tmod_le ha.1.1 ha.1.2]
      simp [cmdOk, hk]; omega
  refine (key_v h (by omega)).bind fun y hy => (pick_t hy.2 (by omega) (by omega)).bind fun z hz => Tot.ite (fun _ => ?_) fun _ => rest hy.1 (hz.2.up (by omega))
  refine (pick_t hz.2 (by omega) (by omega)).bind fun u hu => ?_
  have := hu.1.2 (by omega)
  refine Tot.chk hu.1.1 (Tot.chk (by simp; omega) (rest (rd_all (P := fun x => keyOk x = true) hu.1.1 (by simp; omega) ?_) (hu.2.up (by omega))))
  intro x hx
  simp only [List.mem_cons, List.not_mem_nil, or_false] at hx
  rcases hx with rfl | rfl | rfl | rfl <;> rfl
theorem any_v {n : Int} {r : spec_l20Rd} (h : Rdr n r) (hn : n ≤ 600000000) : Tot (spec_l20Any r 0) (fun x => cmdOk x.1 = true ∧ Rdr (n + 24) x.2.1) := by
  rw [spec_l20Any_eq]
  simp only [cond_dec]
  refine (cmd_v h (by omega)).bind fun x hx => (pick_t hx.2 (by omega) (by omega)).bind fun y hy => Tot.ite (fun _ => ?_) fun _ => Tot.val ⟨hx.1, hy.2.up (by omega)⟩
  refine (key_v hy.2 (by omega)).bind fun z hz => (pick_t hz.2 (by omega) (by omega)).bind fun u hu => ?_
  have := hu.1.2 (by omega)
  refine Tot.chk hu.1.1 (Tot.chk (by simp; omega) (Tot.val ⟨rd_all (P := fun x => cmdOk (impl_Command.mk 5 x 0 0) = true) hu.1.1 (by simp; omega) ?_, hu.2.up (by omega)⟩))
  intro x hx
  simp only [List.mem_cons, List.not_mem_nil, or_false] at hx
  rcases hx with rfl | rfl | rfl | rfl
  · rfl
  · rfl
  · rfl
  · simp [cmdOk, hz.1]
/-! ### Sessions, pairs, states -/
end Go.Proofs.YtlffjoabajdfnaaGreat.Ev
