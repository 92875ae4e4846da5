/- Plays, settled chains, new chains; what is drawn of them. No condition. -/
import Derived.Test.YthkdkojfahaeaaaGreatPuSv
set_option linter.unusedVariables false
set_option linter.unusedSimpArgs false
namespace Go.Proofs.YthkdkojfahaeaaaGreat.Ev
open Go.Proofs.YthkdkojfahaeaaaGreat.Eng
open Go.RowKit (wrap64)
/-! ### Plays, settled chains -/
abbrev sk (c : impl_Chain) : impl_Chain := impl_Chain.mk (impl_State.mk c.Base.Span [] [] c.Base.Sealed c.Base.Cut) (impl_Config.mk c.Conf.Epoch [] c.Conf.Fresh) [] [] [] []
theorem chainPlay_l (xs : List impl_Event) (hx : xs.length ≤ 60) (he : ∀ e ∈ xs, EvOk e) (a : impl_Chain) (z : impl_Chain) (t2 : List impl_Pair) (t3 : List impl_Session) (t4 : List Int) (t5 : List impl_Replica) (t6 : List Bool) (t7 : List impl_Message) (t8 : List impl_Answer) :
    ∀ (j : Nat) (i : Int) (c : impl_Chain), i + j = xs.length → 0 ≤ i → Step a c → Tot (spec_ChainPlay_5 xs i z (sk c) t2 t3 t4 t5 t6 t7 t8 c.Base.Pairs c.Base.Known c.Conf.Members c.Nodes c.Up c.Bag c.Answers) (fun x => Step a x.1)
  | 0, i, c, hj, h0, hs => by
    rw [spec_ChainPlay_5_eq, cond_dec, if_neg (by omega)]
    exact Tot.val hs
  | j + 1, i, c, hj, h0, hs => by
    have hi : i < (xs.length : Int) := by omega
    have hev := he _ (rd_mem (d := z_impl_Event) h0 hi)
    rw [spec_ChainPlay_5_eq]
    simp only [cond_dec, if_pos hi, if_pos h0, eventValid_t hev, Option.bind_some, Bool.not_true, cond_false, w64 (n := i + 1) (by omega) (by omega)]
    exact (chainStep_t c _ hs.ok hev).bind fun x hx' => chainPlay_l xs hx he a z t2 t3 t4 t5 t6 t7 t8 j (i + 1) x.1.1 (by omega) (by omega) (hs.trans hx')
theorem chainPlay_t (c : impl_Chain) (xs : List impl_Event) (h : ChOk c) (hx : xs.length ≤ 60) (he : ∀ e ∈ xs, EvOk e) : Tot (spec_ChainPlay c xs) (fun x => Step c x.1) := by
  rw [spec_ChainPlay_eq, eta_Chain, spec_ChainValid_f c h.inn, Option.bind_some, (chainOk_iff c).2 h, Bool.not_true, cond_false, cond_dec, if_neg (by omega), l19Copy_f c h, Option.bind_some]
  exact chainPlay_l xs hx he c _ _ _ _ _ _ _ _ xs.length 0 c (by omega) (by omega) (Step.refl h)
theorem l22do_t (c : impl_Chain) (k n : Int) (h : ChOk c) (hk : 2 ≤ k ∧ k ≤ 12) (hn : 0 ≤ n ∧ n ≤ 4) : Tot (spec_l22do c k n) (fun x => Step c x.1) := by
  rw [spec_l22do_eq, eta_Chain]
  exact (chainStep_t c _ h ⟨by dsimp only; omega, hn, by dsimp only; omega, .inr ⟨by dsimp only; omega, rfl⟩⟩).bind fun x hx => Tot.val hx
theorem members_at {c : impl_Config} (h : CfgOk c) {i : Int} (h0 : 0 ≤ i) (h1 : i < c.Members.length) : 0 ≤ rdAt c.Members i.toNat 0 ∧ rdAt c.Members i.toNat 0 ≤ 4 := h.nodes _ (rd_mem h0 h1)
section
variable (a z : impl_Chain) (ha : ChOk a) (t3 : List impl_Pair) (t4 : List impl_Session) (t5 : List Int) (t6 : List impl_Replica) (t7 : List Bool) (t8 : List impl_Message) (t9 : List impl_Answer)
include ha
theorem settle19 : ∀ (j : Nat) (i : Int) (c : impl_Chain), i + j = a.Conf.Members.length → 0 ≤ i → Step a c → Tot (spec_ChainSettle_19 a.Conf.Members i a z (sk c) t3 t4 t5 t6 t7 t8 t9 c.Base.Pairs c.Base.Known c.Conf.Members c.Nodes c.Up c.Bag c.Answers) (fun x => Step a x.1)
  | 0, i, c, hj, h0, hs => by
    have hc := (configOk_iff _).1 ha.conf
    have n0 := hc.n0
    have n1 := hc.n1
    rw [spec_ChainSettle_19_eq, w64 (n := i + 1) (by omega) (by omega), w64 (n := (a.Conf.Members.length : Int) - 1) (by omega) (by omega)]
    simp only [cond_dec]
    rw [if_neg (by omega), if_pos (by omega), if_pos (by omega)]
    have hl := members_at hc (i := (a.Conf.Members.length : Int) - 1) (by omega) (by omega)
    refine Tot.bif (fun _ => ?_) fun _ => ?_
    · refine (l22do_t c 8 _ hs.ok (by omega) hl).bind fun x hx => (l22do_t x.1 3 0 hx.ok (by omega) (by omega)).bind fun y hy => (l22do_t y.1 7 _ hy.ok (by omega) hl).bind fun w hw => Tot.val (((hs.trans hx).trans hy).trans hw)
    · exact (l22do_t c 7 _ hs.ok (by omega) hl).bind fun w hw => Tot.val (hs.trans hw)
  | j + 1, i, c, hj, h0, hs => by
    have hc := (configOk_iff _).1 ha.conf
    have n0 := hc.n0
    have n1 := hc.n1
    by_cases hl1 : i + 1 < (a.Conf.Members.length : Int)
    · have hi : i < (a.Conf.Members.length : Int) := by omega
      rw [spec_ChainSettle_19_eq, w64 (n := i + 1) (by omega) (by omega)]
      simp only [cond_dec, if_pos hl1, if_pos h0, if_pos hi]
      exact (l22do_t c 2 _ hs.ok (by omega) (members_at hc h0 hi)).bind fun x hx => (l22do_t x.1 3 0 hx.ok (by omega) (by omega)).bind fun y hy => settle19 j (i + 1) y.1 (by omega) (by omega) ((hs.trans hx).trans hy)
    · rw [spec_ChainSettle_19_eq, w64 (n := i + 1) (by omega) (by omega), w64 (n := (a.Conf.Members.length : Int) - 1) (by omega) (by omega)]
      simp only [cond_dec]
      rw [if_neg hl1, if_pos (by omega), if_pos (by omega)]
      have hl := members_at hc (i := (a.Conf.Members.length : Int) - 1) (by omega) (by omega)
      refine Tot.bif (fun _ => ?_) fun _ => ?_
      · refine (l22do_t c 8 _ hs.ok (by omega) hl).bind fun x hx => (l22do_t x.1 3 0 hx.ok (by omega) (by omega)).bind fun y hy => (l22do_t y.1 7 _ hy.ok (by omega) hl).bind fun w hw => Tot.val (((hs.trans hx).trans hy).trans hw)
      · exact (l22do_t c 7 _ hs.ok (by omega) hl).bind fun w hw => Tot.val (hs.trans hw)
theorem settle14 : ∀ (j : Nat) (i : Int) (c : impl_Chain), i + j = a.Conf.Members.length → 0 ≤ i → Step a c → Tot (spec_ChainSettle_14 a.Conf.Members i a z (sk c) t3 t4 t5 t6 t7 t8 t9 c.Base.Pairs c.Base.Known c.Conf.Members c.Nodes c.Up c.Bag c.Answers) (fun x => Step a x.1)
  | 0, i, c, hj, h0, hs => by
    rw [spec_ChainSettle_14_eq, cond_dec, if_neg (by omega)]
    exact settle19 a z ha t3 t4 t5 t6 t7 t8 t9 a.Conf.Members.length 0 c (by omega) (by omega) hs
  | j + 1, i, c, hj, h0, hs => by
    have hc := (configOk_iff _).1 ha.conf
    have n1 := hc.n1
    have hi : i < (a.Conf.Members.length : Int) := by omega
    rw [spec_ChainSettle_14_eq, w64 (n := i + 1) (by omega) (by omega)]
    simp only [cond_dec, if_pos hi, if_pos h0]
    exact (l22do_t c 6 _ hs.ok (by omega) (members_at hc h0 hi)).bind fun x hx => (l22do_t x.1 3 0 hx.ok (by omega) (by omega)).bind fun y hy => settle14 j (i + 1) y.1 (by omega) (by omega) ((hs.trans hx).trans hy)
theorem settle9 : ∀ (j : Nat) (i : Int) (c : impl_Chain), i + j = a.Bag.length → 0 ≤ i → Step a c → Tot (spec_ChainSettle_9 i a z (sk c) t3 t4 t5 t6 t7 t8 t9 c.Base.Pairs c.Base.Known c.Conf.Members c.Nodes c.Up c.Bag c.Answers) (fun x => Step a x.1)
  | 0, i, c, hj, h0, hs => by
    rw [spec_ChainSettle_9_eq, cond_dec, if_neg (by omega)]
    exact settle14 a z ha t3 t4 t5 t6 t7 t8 t9 a.Conf.Members.length 0 c (by omega) (by omega) hs
  | j + 1, i, c, hj, h0, hs => by
    have hb := ha.bag.1
    rw [spec_ChainSettle_9_eq, cond_dec, if_pos (by omega), w64 (n := i + 1) (by omega) (by omega)]
    exact (l22do_t c 4 0 hs.ok (by omega) (by omega)).bind fun x hx => settle9 j (i + 1) x.1 (by omega) (by omega) (hs.trans hx)
theorem settle5 : ∀ (j : Nat) (i : Int) (c : impl_Chain), i + j = 5 → 0 ≤ i → Step a c → Tot (spec_ChainSettle_5 i a z (sk c) t3 t4 t5 t6 t7 t8 t9 c.Base.Pairs c.Base.Known c.Conf.Members c.Nodes c.Up c.Bag c.Answers) (fun x => Step a x.1)
  | 0, i, c, hj, h0, hs => by
    rw [spec_ChainSettle_5_eq, cond_dec, if_neg (by omega)]
    exact settle9 a z ha t3 t4 t5 t6 t7 t8 t9 a.Bag.length 0 c (by omega) (by omega) hs
  | j + 1, i, c, hj, h0, hs => by
    rw [spec_ChainSettle_5_eq, cond_dec, if_pos (by omega), w64 (n := i + 1) (by omega) (by omega)]
    exact (l22do_t c 10 i hs.ok (by omega) (by omega)).bind fun x hx => settle5 j (i + 1) x.1 (by omega) (by omega) (hs.trans hx)
end
theorem chainSettle_t (c : impl_Chain) (h : ChOk c) : Tot (spec_ChainSettle c) (fun x => Step c x.1) := by
  rw [spec_ChainSettle_eq, eta_Chain, spec_ChainValid_f c h.inn, Option.bind_some, (chainOk_iff c).2 h, Bool.not_true, cond_false, l19Copy_f c h, Option.bind_some]
  exact settle5 c _ h _ _ _ _ _ _ _ 5 0 c (by omega) (by omega) (Step.refl h)
/-! ### New chains -/
theorem newChain_l (b : impl_State) (M : List Int) (hb : stateOk b = true) (hm : configOk ⟨1, M, false⟩ = true) (z : impl_Chain) (t3 : List impl_Pair) (t4 : List impl_Session) (t5 : List Int) (t6 : List impl_Replica) (t7 : List Bool) (t8 : List impl_Message) (t9 : List impl_Answer) :
    ∀ (j : Nat) (i : Int) (s2 : impl_Chain) (N : List impl_Replica) (U : List Bool), i + j = 5 → 0 ≤ i → N.length = i.toNat → U.length = i.toNat → NodesOk 1 N → s2.Base.Span = b.Span → s2.Base.Sealed = b.Sealed → s2.Base.Cut = b.Cut → s2.Conf.Epoch = 1 → s2.Conf.Fresh = false →
    Tot (spec_NewChain_6 i z (impl_Config.mk 1 [] false) s2 t3 t4 t5 t6 t7 t8 t9 b.Pairs b.Known M N U [] []) (fun x => ChOk x.1 ∧ x.1.Base = b)
  | 0, i, s2, N, U, hj, h0, hn, hu, hN, b1, b2, b3, b4, b5 => by
    rw [spec_NewChain_6_eq, cond_dec, if_neg (by omega), b1, b2, b3, b4, b5]
    exact Tot.val ⟨⟨hb, hm, by show N.length = 5; omega, by show U.length = 5; omega, hN, ⟨Nat.zero_le _, fun m h => by cases h⟩, ⟨Nat.zero_le _, fun m h => by cases h⟩⟩, rfl⟩
  | j + 1, i, s2, N, U, hj, h0, hn, hu, hN, b1, b2, b3, b4, b5 => by
    have hc := (configOk_iff _).1 hm
    have n1 : M.length ≤ 4 := hc.n1
    rw [spec_NewChain_6_eq, cond_dec, if_pos (by omega), w64 (n := i + 1) (by omega) (by omega)]
    refine (l16Index_t (impl_Config.mk 1 M false) i (show M.length ≤ 1000 by omega)).bind fun q hq => ?_
    rw [cond_dec, l16Copy_f _ (show M.length ≤ 1000 by omega)]
    refine Tot.ite (fun _ => ?_) fun _ => ?_
    · rw [Option.bind_some, ble_row (by simp; omega) (by omega), cond_true, ble_row (by simp; omega) (by omega), cond_true]
      refine newChain_l b M hb hm z t3 t4 t5 t6 t7 t8 t9 j (i + 1) _ _ _ (by omega) (by omega) (by simp; omega) (by simp; omega) (fun r hr => ?_) b1 b2 b3 b4 b5
      rcases List.mem_append.1 hr with hr | hr
      · exact hN r hr
      · rw [List.mem_singleton.1 hr]; exact ⟨replicaOk_mk hm rfl (.inl rfl), Int.le_refl _⟩
    · rw [ble_row (by simp; omega) (by omega), cond_true, ble_row (by simp; omega) (by omega), cond_true]
      refine newChain_l b M hb hm z t3 t4 t5 t6 t7 t8 t9 j (i + 1) _ _ _ (by omega) (by omega) (by simp; omega) (by simp; omega) (fun r hr => ?_) b1 b2 b3 b4 b5
      rcases List.mem_append.1 hr with hr | hr
      · exact hN r hr
      · rw [List.mem_singleton.1 hr]; exact ⟨rfl, by dsimp only; omega⟩
theorem newChain_b (b : impl_State) (M : List Int) (hb : stateOk b = true) (hm : configOk ⟨1, M, false⟩ = true) : Tot (spec_NewChain b M) (fun x => ChOk x.1 ∧ x.1.Base = b) := by
  have n1 : M.length ≤ 4 := ((configOk_iff _).1 hm).n1
  have hk := sessOk_len ((stateOk_iff _).1 hb).2.2.1
  have hp := pairsOk_le ((stateOk_iff _).1 hb).2.1
  rw [spec_NewChain_eq, ble_row (by simp; omega) (by omega), cond_true, spec_StateValid_f b (by omega), Option.bind_some, hb, spec_ConfigValid_f, Option.bind_some, hm, spec_l10Copy_f b (by omega) (by omega), Option.bind_some]
  exact newChain_l b M hb hm _ _ _ _ _ _ _ _ 5 0 _ [] [] (by omega) (by omega) rfl rfl (fun r h => by cases h) rfl rfl rfl rfl rfl
theorem newChain_t (b : impl_State) (M : List Int) (hb : stateOk b = true) (hm : configOk ⟨1, M, false⟩ = true) : Tot (spec_NewChain b M) (fun x => ChOk x.1) := (newChain_b b M hb hm).mono fun x hx => hx.1
def memGo : Nat → Int → Int → List Int
  | 0, _, _ => []
  | k + 1, a, s => a :: memGo k (Int.tmod (a + s) 5) s
theorem memGo_ok : ∀ a : Fin 5, ∀ s : Fin 4, ∀ k : Fin 4, configOk ⟨1, memGo (k.val + 1) (a.val : Int) ((s.val : Int) + 1), false⟩ = true := by decide
theorem members5_t (s : Int) (hs : 1 ≤ s ∧ s ≤ 4) : ∀ (k : Nat) (a : Int) (r : spec_l20Rd) (out : List Int), k ≤ 4 → 0 ≤ a ∧ a ≤ 4 → out.length + k ≤ 10 → spec_l20Members_5 0 a s (k : Int) r out = some (out ++ memGo k a s, (r, ()))
  | 0, a, r, out, hk, ha, ho => by
    rw [spec_l20Members_5_eq, cond_dec, if_neg (by omega), odd0, Option.bind_some, cond_false]; simp [memGo]
  | k + 1, a, r, out, hk, ha, ho => by
    have ht := tmod_range (a := a + s) (n := 5) (by omega) (by omega)
    rw [spec_l20Members_5_eq, cond_dec, if_pos (by omega), ble_row (by simp; omega) (by omega), cond_true, w64 (n := a + s) (by omega) (by omega), w64 (n := ((k + 1 : Nat) : Int) - 1) (by omega) (by omega), show ((k + 1 : Nat) : Int) - 1 = (k : Int) by omega]
    rw [members5_t s hs k _ r (out ++ [a]) (by omega) (by omega) (by simp; omega)]
    simp [memGo]
theorem members_v {n : Int} {r : spec_l20Rd} (h : Rdr n r) (hn : n ≤ 500000000) : Tot (spec_l20Members r 0) (fun x => configOk ⟨1, x.1, false⟩ = true ∧ Rdr (n + 3) x.2.1) := by
  rw [spec_l20Members_eq]
  refine (pick_t h (by omega) (by omega)).bind fun x hx => (pick_t hx.2 (by omega) (by omega)).bind fun y hy => (pick_t hy.2 (by omega) (by omega)).bind fun z hz => ?_
  have x1 := hx.1.2 (by omega)
  have x0 := hx.1.1
  have y1 := hy.1.2 (by omega)
  have y0 := hy.1.1
  have z1 := hz.1.2 (by omega)
  have z0 := hz.1.1
  rw [w64 (n := 1 + y.1) (by omega) (by omega), w64 (n := 1 + z.1) (by omega) (by omega), show 1 + z.1 = ((z.1.toNat + 1 : Nat) : Int) by omega, members5_t (1 + y.1) (by omega) (z.1.toNat + 1) x.1 z.2.1 [] (by omega) (by omega) (by simp; omega)]
  refine Tot.val ⟨?_, hz.2.up (by omega)⟩
  have := memGo_ok ⟨x.1.toNat, by omega⟩ ⟨y.1.toNat, by omega⟩ ⟨z.1.toNat, by omega⟩
  dsimp only at this
  rw [show ((x.1.toNat : Nat) : Int) = x.1 by omega, show ((y.1.toNat : Nat) : Int) + 1 = 1 + y.1 by omega] at this
  exact this
theorem base_v {n : Int} {r : spec_l20Rd} (h : Rdr n r) (hn : n ≤ 80000000) : Tot (spec_l20Base r) (fun x => stateOk x.1 = true ∧ Rdr (n + 6001) x.2.1) := by
  rw [spec_l20Base_eq]
  simp only [cond_dec]
  refine (pick_t h (by omega) (by omega)).bind fun x hx => Tot.ite (fun _ => ?_) fun _ => ?_
  · rw [spec_NewState_eq, spec_IntervalValid_f, Option.bind_some]
    exact Tot.val ⟨rfl, hx.2.up (by omega)⟩
  · refine (state_v hx.2 (by omega)).bind fun y hy => Tot.val ⟨?_, hy.2.up (by omega)⟩
    obtain ⟨h1, h2, h3, h4, h5⟩ := (stateOk_iff _).1 hy.1
    exact (stateOk_iff _).2 ⟨h1, h2, h3, h4, .inl rfl⟩
end Go.Proofs.YthkdkojfahaeaaaGreat.Ev
