/- Chains that are drawn. No condition. -/
import Derived.Test.YthkdkojfahaeaaaGreatPuDw
set_option linter.unusedVariables false
set_option linter.unusedSimpArgs false
set_option linter.unusedSectionVars false
namespace Go.Proofs.YthkdkojfahaeaaaGreat.Ev
open Go.Proofs.YthkdkojfahaeaaaGreat.Eng
open Go.RowKit (wrap64)
/-! ### Events -/
abbrev zEntry : impl_Entry := impl_Entry.mk 0 0 (impl_Command.mk 0 es 0 0)
theorem ev0 {k n p : Int} (hk : 2 ≤ k ∧ k ≤ 12) (hn : 0 ≤ n ∧ n ≤ 4) (hp : 0 ≤ p ∧ p ≤ 9) : EvOk ⟨k, n, p, zEntry⟩ :=
  ⟨by dsimp only; omega, hn, hp, .inr ⟨by dsimp only; omega, rfl⟩⟩
theorem ev1 {n c s : Int} {x : impl_Command} (hn : 0 ≤ n ∧ n ≤ 4) (hc : 0 ≤ c ∧ c ≤ 3) (hs : 1 ≤ s ∧ s ≤ 999) (hx : cmdOk x = true) : EvOk ⟨1, n, 0, ⟨c, s, x⟩⟩ :=
  ⟨by dsimp only; omega, hn, by dsimp only; omega, .inl ⟨rfl, by simp [entryOk, hc.1, hc.2, hs.1, hs.2, hx]⟩⟩
set_option maxHeartbeats 1000000 in
theorem event8_t {n : Int} {r : spec_l20Rd} (h : Rdr n r) (hn : n ≤ 500000000) (q hd tl mb an pl : Int) (z : impl_Event) (h1 : 1 ≤ q ∧ q ≤ 999) (h2 : 0 ≤ hd ∧ hd ≤ 4) (h3 : 0 ≤ tl ∧ tl ≤ 4) (h4 : 0 ≤ mb ∧ mb ≤ 4) (h5 : 0 ≤ an ∧ an ≤ 4) (h6 : 0 ≤ pl ∧ pl ≤ 9) :
    Tot (spec_l20Event_8 q hd tl mb an pl r z) (fun x => EvOk x.1 ∧ Rdr (n + 30) x.2.1) := by
  rw [spec_l20Event_8_eq]
  refine (pick_t h (by omega) (by omega)).bind fun x hx => (pick_t hx.2 (by omega) (by omega)).bind fun y hy => ?_
  have x1 := hx.1.2 (by omega)
  have x0 := hx.1.1
  have fin : Rdr (n + 30) y.2.1 := hy.2.up (by omega)
  have fc : ∀ {hd : Int}, 0 ≤ hd ∧ hd ≤ 4 → Tot ((spec_l20Cmd y.2.1 0).bind fun w => some (impl_Event.mk 1 hd 0 (impl_Entry.mk (wrap64 (1 + x.1)) q w.1), (w.2.1, ()))) (fun x => EvOk x.1 ∧ Rdr (n + 30) x.2.1) := fun hh =>
    (cmd_v hy.2 (by omega)).bind fun w hw => Tot.val ⟨ev1 hh (by rw [w64 (by omega) (by omega)]; omega) h1 hw.1, hw.2.up (by omega)⟩
  have fa : ∀ {hd : Int}, 0 ≤ hd ∧ hd ≤ 4 → Tot ((spec_l20Any y.2.1 0).bind fun w => some (impl_Event.mk 1 hd 0 (impl_Entry.mk (wrap64 (1 + x.1)) q w.1), (w.2.1, ()))) (fun x => EvOk x.1 ∧ Rdr (n + 30) x.2.1) := fun hh =>
    (any_v hy.2 (by omega)).bind fun w hw => Tot.val ⟨ev1 hh (by rw [w64 (by omega) (by omega)]; omega) h1 hw.1, hw.2.up (by omega)⟩
  simp only [cond_dec]
  have v : ∀ {k a p : Int}, 2 ≤ k ∧ k ≤ 12 → 0 ≤ a ∧ a ≤ 4 → 0 ≤ p ∧ p ≤ 9 → Tot (some (impl_Event.mk k a p zEntry, (y.2.1, ()))) (fun x => EvOk x.1 ∧ Rdr (n + 30) x.2.1) := fun a b c => Tot.val ⟨ev0 a b c, fin⟩
  refine Tot.ite (fun _ => fa h2) fun _ => Tot.ite (fun _ => fa h2) fun _ => Tot.ite (fun _ => fc h5) fun _ => ?_
  refine Tot.ite (fun _ => v (by omega) h4 (by omega)) fun _ => Tot.ite (fun _ => v (by omega) h4 (by omega)) fun _ => Tot.ite (fun _ => v (by omega) h5 (by omega)) fun _ => ?_
  refine Tot.ite (fun _ => v (by omega) (by omega) h6) fun _ => Tot.ite (fun _ => v (by omega) (by omega) h6) fun _ => Tot.ite (fun _ => v (by omega) (by omega) h6) fun _ => Tot.ite (fun _ => v (by omega) (by omega) h6) fun _ => Tot.ite (fun _ => v (by omega) (by omega) h6) fun _ => ?_
  refine Tot.ite (fun _ => v (by omega) (by omega) h6) fun _ => Tot.ite (fun _ => v (by omega) (by omega) h6) fun _ => ?_
  refine Tot.ite (fun _ => v (by omega) h4 (by omega)) fun _ => Tot.ite (fun _ => v (by omega) h4 (by omega)) fun _ => Tot.ite (fun _ => v (by omega) h3 (by omega)) fun _ => Tot.ite (fun _ => v (by omega) h5 (by omega)) fun _ => ?_
  refine Tot.ite (fun _ => v (by omega) h3 (by omega)) fun _ => Tot.ite (fun _ => v (by omega) h5 (by omega)) fun _ => Tot.ite (fun _ => v (by omega) h5 (by omega)) fun _ => Tot.ite (fun _ => v (by omega) h5 (by omega)) fun _ => ?_
  refine Tot.ite (fun _ => v (by omega) h4 (by omega)) fun _ => Tot.ite (fun _ => v (by omega) h5 (by omega)) fun _ => ?_
  refine (pick_t hy.2 (by omega) (by omega)).bind fun u hu => (cmd_v hu.2 (by omega)).bind fun w hw => Tot.val ⟨?_, hw.2.up (by omega)⟩
  have u1 := hu.1.2 (by omega)
  have u0 := hu.1.1
  exact ev1 h2 (by rw [w64 (by omega) (by omega)]; omega) (by rw [w64 (by omega) (by omega)]; omega) hw.1
theorem event_t {n : Int} {r : spec_l20Rd} (h : Rdr n r) (hn : n ≤ 400000000) (c : impl_Chain) (hc : ChOk c) (q : Int) (hq : 1 ≤ q ∧ q ≤ 999) : Tot (spec_l20Event r c q) (fun x => EvOk x.1 ∧ Rdr (n + 40) x.2.1) := by
  have hk := (configOk_iff _).1 hc.conf
  have n0 := hk.n0
  have n1 := hk.n1
  have hb := hc.bag.1
  rw [spec_l20Event_eq]
  simp only [cond_dec]
  rw [if_pos (by omega), w64 (n := (c.Conf.Members.length : Int) - 1) (by omega) (by omega), if_pos (by omega), if_pos (by omega)]
  refine (pick_t h (by omega) (by omega)).bind fun x hx => ?_
  have x1 := hx.1.2 (by omega)
  rw [if_pos hx.1.1, if_pos x1]
  refine (pick_t hx.2 (by omega) (by omega)).bind fun y hy => ?_
  have y1 := hy.1.2 (by omega)
  have m0 := members_at hk (i := 0) (by omega) (by omega)
  have ml := members_at hk (i := (c.Conf.Members.length : Int) - 1) (by omega) (by omega)
  have mx := members_at hk hx.1.1 x1
  refine Tot.ite (fun hpos => ?_) fun _ => ?_
  · refine (pick_t hy.2 (by omega) (by omega)).bind fun w hw => ?_
    have w1 := hw.1.2 (by omega)
    exact (event8_t hw.2 (by omega) q _ _ _ _ _ _ hq m0 ml mx ⟨hy.1.1, by omega⟩ ⟨hw.1.1, by omega⟩).mono fun u hu => ⟨hu.1, hu.2.up (by omega)⟩
  · exact (event8_t hy.2 (by omega) q _ _ _ _ _ _ hq m0 ml mx ⟨hy.1.1, by omega⟩ (by omega)).mono fun u hu => ⟨hu.1, hu.2.up (by omega)⟩
theorem flow12_t (c : impl_Config) (hc : CfgOk c) (p : Int) (hp : 0 ≤ p ∧ p ≤ 9) (l : List impl_Event) (hl : l.length ≤ 50) (he : ∀ e ∈ l, EvOk e) : Tot (spec_l20Flow_12 c.Members p l) (fun x => (x.1 ≠ [] ∧ x.1.length ≤ 100) ∧ ∀ e ∈ x.1, EvOk e) := by
  have n0 := hc.n0
  have n1 := hc.n1
  have ml := members_at hc (i := (c.Members.length : Int) - 1) (by omega) (by omega)
  rw [spec_l20Flow_12_eq, w64 (n := (c.Members.length : Int) - 1) (by omega) (by omega)]
  simp only [cond_dec]
  rw [if_pos (by omega), if_pos (by omega), ble_row (by simp; omega) (by omega), cond_true]
  refine Tot.val ⟨⟨by simp, by simp; omega⟩, fun e hm => ?_⟩
  rcases List.mem_append.1 hm with hm | hm
  · exact he e hm
  · simp only [List.mem_cons, List.not_mem_nil, or_false] at hm
    rcases hm with rfl | rfl | rfl
    · exact ev0 (by omega) ml (by omega)
    · exact ev0 (by omega) ml (by omega)
    · exact ev0 (by omega) (by omega) hp
theorem flow9_t (c : impl_Config) (hc : CfgOk c) (p : Int) (hp : 0 ≤ p ∧ p ≤ 9) (m : Int) : ∀ (j : Nat) (i : Int) (l : List impl_Event), i + j = c.Members.length → 0 ≤ i → l.length ≤ 10 + 2 * i → (∀ e ∈ l, EvOk e) → Tot (spec_l20Flow_9 m c.Members p i l) (fun x => (x.1 ≠ [] ∧ x.1.length ≤ 100) ∧ ∀ e ∈ x.1, EvOk e)
  | 0, i, l, hj, h0, hl, he => by
    have n1 := hc.n1
    rw [spec_l20Flow_9_eq, w64 (n := i + 1) (by omega) (by omega)]
    simp only [cond_dec]
    rw [if_neg (by omega)]
    exact flow12_t c hc p hp l (by omega) he
  | j + 1, i, l, hj, h0, hl, he => by
    have n1 := hc.n1
    have hi : i < (c.Members.length : Int) := by omega
    rw [spec_l20Flow_9_eq, w64 (n := i + 1) (by omega) (by omega)]
    simp only [cond_dec, if_pos h0, if_pos hi]
    refine Tot.ite (fun _ => Tot.ite (fun _ => ?_) fun _ => flow12_t c hc p hp l (by omega) he) fun _ => flow12_t c hc p hp l (by omega) he
    rw [ble_row (by simp; omega) (by omega), cond_true]
    refine flow9_t c hc p hp m j (i + 1) _ (by omega) (by omega) (by simp; omega) fun e hm => ?_
    rcases List.mem_append.1 hm with hm | hm
    · exact he e hm
    · simp only [List.mem_cons, List.not_mem_nil, or_false] at hm
      rcases hm with rfl | rfl
      · exact ev0 (by omega) (members_at hc h0 hi) (by omega)
      · exact ev0 (by omega) (by omega) hp
theorem flow5_t (c : impl_Config) (hc : CfgOk c) (p : Int) (hp : 0 ≤ p ∧ p ≤ 9) (m : Int) : ∀ (j : Nat) (i : Int) (l : List impl_Event), i + j = c.Members.length → 0 ≤ i → l.length ≤ 2 * i → (∀ e ∈ l, EvOk e) → Tot (spec_l20Flow_5 m c.Members p i l) (fun x => (x.1 ≠ [] ∧ x.1.length ≤ 100) ∧ ∀ e ∈ x.1, EvOk e)
  | 0, i, l, hj, h0, hl, he => by
    have n1 := hc.n1
    rw [spec_l20Flow_5_eq]
    simp only [cond_dec]
    rw [if_neg (by omega)]
    exact flow9_t c hc p hp m c.Members.length 0 l (by omega) (by omega) (by omega) he
  | j + 1, i, l, hj, h0, hl, he => by
    have n1 := hc.n1
    have hi : i < (c.Members.length : Int) := by omega
    rw [spec_l20Flow_5_eq]
    simp only [cond_dec, if_pos h0, if_pos hi, w64 (n := i + 1) (by omega) (by omega)]
    refine Tot.ite (fun _ => ?_) fun _ => flow9_t c hc p hp m c.Members.length 0 l (by omega) (by omega) (by omega) he
    rw [ble_row (by simp; omega) (by omega), cond_true]
    refine flow5_t c hc p hp m j (i + 1) _ (by omega) (by omega) (by simp; omega) fun e hm => ?_
    rcases List.mem_append.1 hm with hm | hm
    · exact he e hm
    · simp only [List.mem_cons, List.not_mem_nil, or_false] at hm
      rcases hm with rfl | rfl
      · exact ev0 (by omega) (members_at hc h0 hi) (by omega)
      · exact ev0 (by omega) (by omega) hp
theorem flow_t (c : impl_Chain) (hc : ChOk c) (m : Int) : Tot (spec_l20Flow c m) (fun x => (x.1 ≠ [] ∧ x.1.length ≤ 100) ∧ ∀ e ∈ x.1, EvOk e) := by
  have hb := hc.bag.1
  rw [spec_l20Flow_eq]
  exact flow5_t c.Conf ((configOk_iff _).1 hc.conf) _ (by unfold mn; split <;> omega) m c.Conf.Members.length 0 [] (by omega) (by omega) (by simp) fun e h => by cases h
/-! ### Plays -/
section
variable (a z s2 : impl_Chain) (g6 : List impl_Pair) (g7 : List impl_Session) (g8 : List Int) (g9 : List impl_Replica) (g10 : List Bool) (g11 : List impl_Message) (g12 : List impl_Answer)
abbrev PlayQ (N : Int) (a : impl_Chain) (x : (impl_Chain × List impl_Event × Unit) × spec_l20Rd × Unit) : Prop := (x.1.1 = a ∧ x.1.2.1.length ≤ 60 ∧ ∀ e ∈ x.1.2.1, EvOk e) ∧ Rdr N x.2.1
def P4 (N : Int) (m : Int) (f : Nat) : Prop := ∀ (c : impl_Chain) (r : spec_l20Rd) (ev : List impl_Event), ChOk c → Rdr (N - 100 * f) r → ev.length + f = m.toNat → (∀ e ∈ ev, EvOk e) →
  Tot (spec_l20Play_4' m r z (sk a) (sk c) ev g6 g7 g8 g9 g10 g11 g12 a.Base.Pairs a.Base.Known a.Conf.Members a.Nodes a.Up a.Bag a.Answers c.Base.Pairs c.Base.Known c.Conf.Members c.Nodes c.Up c.Bag c.Answers) (PlayQ N a)
def P9 (N : Int) (m : Int) (f : Nat) : Prop := ∀ (c : impl_Chain) (r : spec_l20Rd) (ev l : List impl_Event) (i : Int), 0 ≤ i → l.length ≤ 1000 → (∀ e ∈ l, EvOk e) → ChOk c → Rdr (N - 100 * f) r → ev.length + f = m.toNat → (∀ e ∈ ev, EvOk e) →
  Tot (spec_l20Play_9' m i r z (sk a) (sk c) ev l g6 g7 g8 g9 g10 g11 g12 a.Base.Pairs a.Base.Known a.Conf.Members a.Nodes a.Up a.Bag a.Answers c.Base.Pairs c.Base.Known c.Conf.Members c.Nodes c.Up c.Bag c.Answers) (PlayQ N a)
variable {N : Int} (hN : N ≤ 100000000) {m : Int} (hm : 0 ≤ m ∧ m ≤ 60)
include hN hm
theorem p9_step (f : Nat) (h : P9 a z g6 g7 g8 g9 g10 g11 g12 N m f) (c : impl_Chain) (r : spec_l20Rd) (ev l : List impl_Event) (i : Int) (h0 : 0 ≤ i) (hi : i < l.length) (hl : l.length ≤ 1000) (he : ∀ e ∈ l, EvOk e) (hc : ChOk c) (hr : Rdr (N - 100 * (f : Int)) r) (hf : ev.length + (f + 1) = m.toNat) (hev : ∀ e ∈ ev, EvOk e) :
    Tot (spec_l20Play_9' m i r z (sk a) (sk c) ev l g6 g7 g8 g9 g10 g11 g12 a.Base.Pairs a.Base.Known a.Conf.Members a.Nodes a.Up a.Bag a.Answers c.Base.Pairs c.Base.Known c.Conf.Members c.Nodes c.Up c.Bag c.Answers) (PlayQ N a) := by
  have hx := he _ (rd_mem (d := z_impl_Event) h0 hi)
  rw [spec_l20Play_9'_eq]
  simp only [cond_dec, if_pos hi, if_pos h0, w64 (n := i + 1) (by omega) (by omega)]
  rw [if_pos (by omega)]
  refine (chainStep_t c _ hc hx).bind fun y hy => ?_
  rw [ble_row (by simp; omega) (by omega), cond_true]
  refine h y.1.1 r _ l (i + 1) (by omega) hl he hy.ok hr (by simp; omega) fun e hm => ?_
  rcases List.mem_append.1 hm with hm | hm
  · exact hev e hm
  · rw [List.mem_singleton.1 hm]; exact hx
theorem p_all : ∀ f : Nat, P4 a z g6 g7 g8 g9 g10 g11 g12 N m f ∧ P9 a z g6 g7 g8 g9 g10 g11 g12 N m f := by
  have drop9 : ∀ f, P4 a z g6 g7 g8 g9 g10 g11 g12 N m f → ∀ (c : impl_Chain) (r : spec_l20Rd) (ev l : List impl_Event) (i : Int), 0 ≤ i → ¬ (i < l.length ∧ (ev.length : Int) < m) → ChOk c → Rdr (N - 100 * (f : Int)) r → ev.length + f = m.toNat → (∀ e ∈ ev, EvOk e) →
      Tot (spec_l20Play_9' m i r z (sk a) (sk c) ev l g6 g7 g8 g9 g10 g11 g12 a.Base.Pairs a.Base.Known a.Conf.Members a.Nodes a.Up a.Bag a.Answers c.Base.Pairs c.Base.Known c.Conf.Members c.Nodes c.Up c.Bag c.Answers) (PlayQ N a) := by
    intro f h4 c r ev l i h0 hno hc hr hf hev
    rw [spec_l20Play_9'_eq]
    simp only [cond_dec]
    by_cases hi : i < (l.length : Int)
    · rw [if_pos hi, if_neg (fun h => hno ⟨hi, h⟩)]; exact h4 c r ev hc hr hf hev
    · rw [if_neg hi]; exact h4 c r ev hc hr hf hev
  have next : ∀ f, (P4 a z g6 g7 g8 g9 g10 g11 g12 N m f ∧ P9 a z g6 g7 g8 g9 g10 g11 g12 N m f) → P4 a z g6 g7 g8 g9 g10 g11 g12 N m (f + 1) := by
    intro f hp c r ev hc hr hf hev
    have hlt : (ev.length : Int) < m := by omega
    rw [spec_l20Play_4'_eq]
    simp only [cond_dec, if_pos hlt, w64 (n := 1 + (ev.length : Int)) (by omega) (by omega)]
    refine (event_t hr (by omega) c hc _ (by omega)).bind fun x hx => (pick_t hx.2 (by omega) (by omega)).bind fun y hy => Tot.ite (fun _ => ?_) fun _ => ?_
    · refine (pick_t hy.2 (by omega) (by omega)).bind fun w hw => (flow_t c hc _).bind fun q hq => ?_
      have hpos : (0 : Int) < q.1.length := by
        have := List.length_pos_iff.2 hq.1.1; omega
      exact p9_step a z g6 g7 g8 g9 g10 g11 g12 hN hm f hp.2 c _ ev q.1 0 (by omega) hpos (by have := hq.1.2; omega) hq.2 hc (hw.2.up (by omega)) hf hev
    · exact p9_step a z g6 g7 g8 g9 g10 g11 g12 hN hm f hp.2 c _ ev [x.1] 0 (by omega) (by simp) (by simp) (fun e hm => by rw [List.mem_singleton.1 hm]; exact hx.1) hc (hy.2.up (by omega)) hf hev
  intro f
  induction f with
  | zero =>
    have h4 : P4 a z g6 g7 g8 g9 g10 g11 g12 N m 0 := by
      intro c r ev hc hr hf hev
      rw [spec_l20Play_4'_eq, cond_dec, if_neg (by omega)]
      exact Tot.val ⟨⟨rfl, by show ev.length ≤ 60; omega, hev⟩, hr.up (by omega)⟩
    exact ⟨h4, fun c r ev l i h0 hl he hc hr hf hev => drop9 0 h4 c r ev l i h0 (fun h => by omega) hc hr hf hev⟩
  | succ f ih =>
    have h4 := next f ih
    refine ⟨h4, fun c r ev l i h0 hl he hc hr hf hev => ?_⟩
    by_cases hi : i < (l.length : Int)
    · exact p9_step a z g6 g7 g8 g9 g10 g11 g12 hN hm f ih.2 c r ev l i h0 hi hl he hc (hr.up (by omega)) hf hev
    · exact drop9 (f + 1) h4 c r ev l i h0 (fun h => hi h.1) hc hr hf hev
end
theorem play_t {n : Int} {r : spec_l20Rd} (h : Rdr n r) (hn : n ≤ 50000000) (m : Int) (hm : 0 ≤ m ∧ m ≤ 60) : Tot (spec_l20Play r m) (fun x => (ChOk x.1.1 ∧ x.1.2.1.length ≤ 60 ∧ ∀ e ∈ x.1.2.1, EvOk e) ∧ Rdr (n + 20000) x.2.1) := by
  rw [spec_l20Play_eq]
  refine (base_v h (by omega)).bind fun b hb => (members_v hb.2 (by omega)).bind fun q hq => (newChain_t b.1 q.1 hb.1 hq.1).bind fun w hw => ?_
  rw [spec_l20Play_4_eq]
  simp only [cond_dec, List.length_nil]
  refine Tot.ite (fun hlt => ?_) fun _ => Tot.val ⟨⟨hw, Nat.zero_le _, fun e h => by cases h⟩, hq.2.up (by omega)⟩
  have fin : ∀ {r : spec_l20Rd} {l : List impl_Event} {z : impl_Chain} {g6 : List impl_Pair} {g7 : List impl_Session} {g8 : List Int} {g9 : List impl_Replica} {g10 : List Bool} {g11 : List impl_Message} {g12 : List impl_Answer}, Rdr (n + 7000) r → l.length ≤ 1000 → (0 : Int) < l.length → (∀ e ∈ l, EvOk e) →
      Tot (spec_l20Play_9 m 0 r z (sk w.1) (sk w.1) [] l g6 g7 g8 g9 g10 g11 g12 w.1.Base.Pairs w.1.Base.Known w.1.Conf.Members w.1.Nodes w.1.Up w.1.Bag w.1.Answers) (fun x => (ChOk x.1.1 ∧ x.1.2.1.length ≤ 60 ∧ ∀ e ∈ x.1.2.1, EvOk e) ∧ Rdr (n + 20000) x.2.1) := by
    intro r l z g6 g7 g8 g9 g10 g11 g12 hr hl hpos he
    have hx := he _ (rd_mem (d := z_impl_Event) (i := 0) (by omega) hpos)
    rw [spec_l20Play_9_eq]
    simp only [cond_dec, List.length_nil, if_pos hpos]
    rw [if_pos (by omega), if_pos (by omega), w64 (n := 0 + 1) (by omega) (by omega)]
    refine (chainStep_t w.1 _ hw hx).bind fun y hy => ?_
    rw [if_pos (by omega), ble_row (by simp) (by omega), cond_true]
    refine ((p_all w.1 z g6 g7 g8 g9 g10 g11 g12 (N := n + 20000) (by omega) hm (m.toNat - 1)).2 y.1.1 r [_] l (0 + 1) (by omega) hl he hy.ok (hr.up (by omega)) (by simp; omega) fun e hm => by rw [List.mem_singleton.1 hm]; exact hx).mono fun x hx => ⟨⟨by rw [hx.1.1]; exact hw, hx.1.2⟩, hx.2⟩
  refine (event_t hq.2 (by omega) w.1 hw (wrap64 (1 + ((0 : Nat) : Int))) (by rw [w64 (by omega) (by omega)]; omega)).bind fun x hx => (pick_t hx.2 (by omega) (by omega)).bind fun y hy => Tot.ite (fun _ => ?_) fun _ => ?_
  · refine (pick_t hy.2 (by omega) (by omega)).bind fun u hu => (flow_t w.1 hw _).bind fun q hq => ?_
    exact fin (hu.2.up (by omega)) (by have := hq.1.2; omega) (by have := List.length_pos_iff.2 hq.1.1; omega) hq.2
  · exact fin (hy.2.up (by omega)) (by simp) (by simp) fun e hm => by rw [List.mem_singleton.1 hm]; exact hx.1
end Go.Proofs.YthkdkojfahaeaaaGreat.Ev
