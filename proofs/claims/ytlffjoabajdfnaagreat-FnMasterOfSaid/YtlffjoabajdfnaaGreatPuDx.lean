/- Chains that are drawn. No condition. -/
import Derived.Test.YtlffjoabajdfnaaGreatPuDw
set_option linter.unusedVariables false
set_option linter.unusedSimpArgs false
set_option linter.unusedSectionVars false
namespace Go.Proofs.YtlffjoabajdfnaaGreat.Ev
open Go.Proofs.YtlffjoabajdfnaaGreat.Eng
open Go.RowKit (wrap64)
/-! ### Events -/
abbrev zEntry : impl_Entry := impl_Entry.mk 0 0 (impl_Command.mk 0 es 0 0)
theorem ev0 {k n p : Int} (hk : 2 ≤ k ∧ k ≤ 12) (hn : 0 ≤ n ∧ n ≤ 4) (hp : 0 ≤ p ∧ p ≤ 9) : EvOk ⟨k, n, p, zEntry⟩ :=
  ⟨by dsimp only; omega, hn, hp, .inr ⟨by dsimp only; omega, rfl⟩⟩
theorem ev1 {n c s : Int} {x : impl_Command} (hn : 0 ≤ n ∧ n ≤ 4) (hc : 0 ≤ c ∧ c ≤ 3) (hs : 1 ≤ s ∧ s ≤ 999) (hx : cmdOk x = true) : EvOk ⟨1, n, 0, ⟨c, s, x⟩⟩ :=
  ⟨by dsimp only; omega, hn, by dsimp only; omega, .inl ⟨rfl, by simp [entryOk, hc.1, hc.2, hs.1, hs.2, hx]⟩⟩
set_option maxHeartbeats 1000000 in
theorem event8_t {n : Int} {r : spec_l20Rd} (h : Rdr n r) (hn : n ≤ 500000000) (q hd tl mb an pl : Int) (z : impl_Event) (h1 : 1 ≤ q ∧ q ≤ 999) (h2 : 0 ≤ hd ∧ hd ≤ 4) (h3 : 0 ≤ tl ∧ tl ≤ 4) (h4 : 0 ≤ mb ∧ mb ≤ 4) (h5 : 0 ≤ an ∧ an ≤ 4) (h6 : 0 ≤ pl ∧ pl ≤ 9) :
    Tot (spec_l20Event_8 q hd tl mb an pl r z) (fun x => EvOk x.1 ∧ Rdr (n + 30) x.2.1) := by
  rw [spec_l20Event_8_eq]
  refine (pick_t h (by omega) (by omega)).bind fun x hx => (pick_t hx.2 (by omega) (by omega)).bind fun y hy => ?_
  have x1 := hx.1.2 (by omega)
  have x0 := hx.1.1
  have fin : Rdr (n + 30) y.2.1 := hy.2.up (by omega)
  have fc : ∀ {hd : Int}, 0 ≤ hd ∧ hd ≤ 4 → Tot ((spec_l20Cmd y.2.1 0).bind fun w => some (impl_Event.mk 1 hd 0 (impl_Entry.mk (wrap64 (1 + x.1)) q w.1), (w.2.1, ()))) (fun x => EvOk x.1 ∧ Rdr (n + 30) x.2.1) := fun hh =>
    (cmd_v hy.2 (by omega)).bind fun w hw => Tot.val ⟨ev1 hh (by rw [w64 (by omega) (by omega)]; omega) h1 hw.1, hw.2.up (by omega)⟩
  have fa : ∀ {hd : Int}, 0 ≤ hd ∧ hd ≤ 4 → Tot ((spec_l20Any y.2.1 0).bind fun w => some (impl_Event.mk 1 hd 0 (impl_Entry.mk (wrap64 (1 + x.1)) q w.1), (w.2.1, ()))) (fun x => EvOk x.1 ∧ Rdr (n + 30) x.2.1) := fun hh =>
    (any_v hy.2 (by omega)).bind fun w hw => Tot.val ⟨ev1 hh (by rw [w64 (by omega) (by omega)]; omega) h1 hw.1, hw.2.up (by omega)⟩
  simp only [cond_dec]
  have v : ∀ {k a p : Int}, 2 ≤ k ∧ k ≤ 12 → 0 ≤ a ∧ a ≤ 4 → 0 ≤ p ∧ p ≤ 9 → Tot (some (impl_Event.mk k a p zEntry, (y.2.1, ()))) (fun x => EvOk x.1 ∧ Rdr (n + 30) x.2.1) := fun a b c => Tot.val ⟨ev0 a b c, fin⟩
  refine Tot.ite (fun _ => fa h2) fun _ => Tot.ite (fun _ => fa h2) fun _ => Tot.ite (fun _ => fc h5) fun _ => ?_
  refine Tot.ite (fun _ => v (by omega) h4 (by omega)) fun _ => Tot.ite (fun _ => v (by omega) h4 (by omega)) fun _ => Tot.ite (fun _ => v (by omega) h5 (by omega)) fun _ => ?_
  refine Tot.ite (fun _ => v (by omega) (by omega) h6) fun _ => Tot.ite (fun _ => v (by omega) (by omega) h6) fun _ => Tot.ite (fun _ => v (by omega) (by omega) h6) fun _ => Tot.ite (fun _ => v (by omega) (by omega) h6) fun _ => Tot.ite (fun _ => v (by omega) (by omega) h6) fun _ => ?_
  refine Tot.ite (fun _ => v (by omega) (by omega) h6) fun _ => Tot.ite (fun _ => v (by omega) (by omega) h6) fun _ => ?_
  refine Tot.ite (fun _ => v (by omega) h4 (by omega)) fun _ => Tot.ite (fun _ => v (by omega) h4 (by omega)) fun _ => Tot.ite (fun _ => v (by omega) h3 (by omega)) fun _ => Tot.ite (fun _ => v (by omega) h5 (by omega)) fun _ => ?_
  refine Tot.ite (fun _ => v (by omega) h3 (by omega)) fun _ => Tot.ite (fun _ => v (by omega) h5 (by omega)) fun _ => Tot.ite (fun _ => v (by omega) h5 (by omega)) fun _ => Tot.ite (fun _ => v (by omega) h5 (by omega)) fun _ => ?_
  refine Tot.ite (fun _ => v (by omega) h4 (by omega)) fun _ => Tot.ite (fun _ => v (by omega) h5 (by omega)) fun _ => ?_
  refine (pick_t hy.2 (by omega) (by omega)).bind fun u hu => (cmd_v hu.2 (by omega)).bind fun w hw => Tot.val ⟨?_, hw.2.up (by omega)⟩
  have u1 := hu.1.2 (by omega)
  have u0 := hu.1.1
  exact ev1 h2 (by rw [w64 (by omega) (by omega)]; omega) (by rw [w64 (by omega) (by omega)]; omega) hw.1
theorem event_t {n : Int} {r : spec_l20Rd} (h : Rdr n r) (hn : n ≤ 400000000) (c : impl_Chain) (hc : ChOk c) (q : Int) (hq : 1 ≤ q ∧ q ≤ 999) : Tot (spec_l20Event r c q) (fun x => EvOk x.1 ∧ Rdr (n + 40) x.2.1) := by
  have hk := (configOk_iff _).1 hc.conf
  have n0 := hk.n0
  have n1 := hk.n1
  have hb := hc.bag.1
  rw [spec_l20Event_eq]
  simp only [cond_dec]
  rw [if_pos (by omega), w64 (n := (c.Conf.Members.length : Int) - 1) (by omega) (by omega), if_pos (by omega), if_pos (by omega)]
  refine (pick_t h (by omega) (by omega)).bind fun x hx => ?_
  have x1 := hx.1.2 (by omega)
  rw [if_pos hx.1.1, if_pos x1]
  refine (pick_t hx.2 (by omega) (by omega)).bind fun y hy => ?_
  have y1 := hy.1.2 (by omega)
  have m0 := members_at hk (i := 0) (by omega) (by omega)
  have ml := members_at hk (i := (c.Conf.Members.length : Int) - 1) (by omega) (by omega)
  have mx := members_at hk hx.1.1 x1
  refine Tot.ite (fun hpos => ?_) fun _ => ?_
  · refine (pick_t hy.2 (by omega) (by omega)).bind fun w hw => ?_
    have w1 := hw.1.2 (by omega)
    exact (event8_t hw.2 (by omega) q _ _ _ _ _ _ hq m0 ml mx ⟨hy.1.1, by omega⟩ ⟨hw.1.1, by omega⟩).mono fun u hu => ⟨hu.1, hu.2.up (by omega)⟩
  · exact (event8_t hy.2 (by omega) q _ _ _ _ _ _ hq m0 ml mx ⟨hy.1.1, by omega⟩ (by omega)).mono fun u hu => ⟨hu.1, hu.2.up (by omega)⟩
theorem flow12_t (c : impl_Config) (hc : CfgOk c) (p : Int) (hp : 0 ≤ p ∧ p ≤ 9) (l : List impl_Event) (hl : l.length ≤ 50) (he : ∀ e ∈ l, EvOk e) : Tot (spec_l20Flow_12 c.Members p l) (fun x => (x.1 ≠ [] ∧ x.1.length ≤ 100) ∧ ∀ e ∈ x.1, EvOk e) := by
  have n0 := hc.n0
  have n1 := hc.n1
  have ml := members_at hc (i := (c.Members.length : Int) - 1) (by omega) (by omega)
  rw [spec_l20Flow_12_eq, w64 (n := (c.Members.length : Int) - 1) (by omega) (by omega)]
  simp only [cond_dec]
  rw [if_pos (by omega), if_pos (by omega), ble_row (by simp; omega) (by omega), cond_true]
  refine Tot.val ⟨⟨by simp, by simp; omega⟩, fun e hm => ?_⟩
  rcases List.mem_append.1 hm with hm | hm
  · exact he e hm
  · simp only [List.mem_cons, List.not_mem_nil, or_false] at hm
    rcases hm with rfl | rfl | rfl
    · exact ev0 (by omega) ml (by omega)
    · exact ev0 (by omega) ml (by omega)
    · exact ev0 (by omega) (by omega) hp
theorem flow9_t (c : impl_Config) (hc : CfgOk c) (p : Int) (hp : 0 ≤ p ∧ p ≤ 9) (m : Int) : ∀ (j : Nat) (i : Int) (l : List impl_Event), i + j = c.Members.length → 0 ≤ i → l.length ≤ 10 + 2 * i → (∀ e ∈ l, EvOk e) → Tot (spec_l20Flow_9 m c.Members p i l) (fun x => (x.1 ≠ [] ∧ x.1.length ≤ 100) ∧ ∀ e ∈ x.1, EvOk e)
  | 0, i, l, hj, h0, hl, he => by
    have n1 := hc.n1
    rw [spec_l20Flow_9_eq, w64 (n := i + 1) (by omega) (by omega)]
    simp only [cond_dec]
    rw [if_neg (by omega)]
    exact flow12_t c hc p hp l (by omega) he
  | j + 1, i, l, hj, h0, hl, he => by
    have n1 := hc.n1
    have hi : i < (c.Members.length : Int) := by omega
    rw [spec_l20Flow_9_eq, w64 (n := i + 1) (by omega) (by omega)]
    simp only [cond_dec, if_pos h0, if_pos hi]
    refine Tot.ite (fun _ => Tot.ite (fun _ => ?_) fun _ => flow12_t c hc p hp l (by omega) he) fun _ => flow12_t c hc p hp l (by omega) he
    rw [ble_row (by simp; omega) (by omega), cond_true]
    refine flow9_t c hc p hp m j (i + 1) _ (by omega) (by omega) (by simp; omega) fun e hm => ?_
    rcases List.mem_append.1 hm with hm | hm
    · exact he e hm
    · simp only [List.mem_cons, List.not_mem_nil, or_false] at hm
      rcases hm with rfl | rfl
      · exact ev0 (by omega) (members_at hc h0 hi) (by omega)
      · exact ev0 (by omega) (by omega) hp
theorem flow5_t (c : impl_Config) (hc : CfgOk c) (p : Int) (hp : 0 ≤ p ∧ p ≤ 9) (m : Int) : ∀ (j : Nat) (i : Int) (l : List impl_Event), i + j = c.Members.length → 0 ≤ i → l.length ≤ 2 * i → (∀ e ∈ l, EvOk e) → Tot (spec_l20Flow_5 m c.Members p i l) (fun x => (x.1 ≠ [] ∧ x.1.length ≤ 100) ∧ ∀ e ∈ x.1, EvOk e)
  | 0, i, l, hj, h0, hl, he => by
    have n1 := hc.n1
    rw [spec_l20Flow_5_eq]
    simp only [cond_dec]
    rw [if_neg (by omega)]
    exact flow9_t c hc p hp m c.Members.length 0 l (by omega) (by omega) (by omega) he
  | j + 1, i, l, hj, h0, hl, he => by
    have n1 := hc.n1
    have hi : i < (c.Members.length : Int) := by omega
    rw [spec_l20Flow_5_eq]
    simp only [cond_dec, if_pos h0, if_pos hi, w64 (n := i + 1) (by omega) (by omega)]
    refine Tot.ite (fun _ => ?_) fun _ => flow9_t c hc p hp m c.Members.length 0 l (by omega) (by omega) (by omega) he
    rw [ble_row (by simp; omega) (by omega), cond_true]
    refine flow5_t c hc p hp m j (i + 1) _ (by omega) (by omega) (by simp; omega) fun e hm => ?_
    rcases List.mem_append.1 hm with hm | hm
    · exact he e hm
    · simp only [List.mem_cons, List.not_mem_nil, or_false] at hm
      rcases hm with rfl | rfl
      · exact ev0 (by omega) (members_at hc h0 hi) (by omega)
      · exact ev0 (by omega) (by omega) hp
theorem flow_t (c : impl_Chain) (hc : ChOk c) (m : Int) : Tot (spec_l20Flow c m) (fun x => (x.1 ≠ [] ∧ x.1.length ≤ 100) ∧ ∀ e ∈ x.1, EvOk e) := by
  have hb := hc.bag.1
  rw [spec_l20Flow_eq]
  exact flow5_t c.Conf ((configOk_iff _).1 hc.conf) _ (by unfold mn; split <;> omega) m c.Conf.Members.length 0 [] (by omega) (by omega) (by simp) fun e h => by cases h
/-! ### Plays -/
section
variable (a z s2 : impl_Chain) (g6 : List impl_Pair) (g7 : List impl_Session) (g8 : List Int) (g9 : List impl_Replica) (g10 : List Bool) (g11 : List impl_Message) (g12 : List impl_Answer)
variable {N : Int} (hN : N ≤ 100000000) {m : Int} (hm : 0 ≤ m ∧ m ≤ 60)
include hN hm
end
end Go.Proofs.YtlffjoabajdfnaaGreat.Ev
