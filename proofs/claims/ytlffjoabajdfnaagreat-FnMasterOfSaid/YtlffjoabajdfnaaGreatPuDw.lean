/- Plays, settled chains, new chains; what is drawn of them. No condition. -/
import Derived.Test.YtlffjoabajdfnaaGreatPuSv
set_option linter.unusedVariables false
set_option linter.unusedSimpArgs false
namespace Go.Proofs.YtlffjoabajdfnaaGreat.Ev
open Go.Proofs.YtlffjoabajdfnaaGreat.Eng
open Go.RowKit (wrap64)
/-! ### Plays, settled chains -/
theorem members_at {c : impl_Config} (h : CfgOk c) {i : Int} (h0 : 0 ≤ i) (h1 : i < c.Members.length) : 0 ≤ rdAt c.Members i.toNat 0 ∧ rdAt c.Members i.toNat 0 ≤ 4 := h.nodes _ (rd_mem h0 h1)
section
variable (a z : impl_Chain) (ha : ChOk a) (t3 : List impl_Pair) (t4 : List impl_Session) (t5 : List Int) (t6 : List impl_Replica) (t7 : List Bool) (t8 : List impl_Message) (t9 : List impl_Answer)
include ha
end
/-! ### New chains -/
theorem newChain_l (b : impl_State) (M : List Int) (hb : stateOk b = true) (hm : configOk ⟨1, M, false⟩ = true) (z : impl_Chain) (t3 : List impl_Pair) (t4 : List impl_Session) (t5 : List Int) (t6 : List impl_Replica) (t7 : List Bool) (t8 : List impl_Message) (t9 : List impl_Answer) :
    ∀ (j : Nat) (i : Int) (s2 : impl_Chain) (N : List impl_Replica) (U : List Bool), i + j = 5 → 0 ≤ i → N.length = i.toNat → U.length = i.toNat → NodesOk 1 N → s2.Base.Span = b.Span → s2.Base.Sealed = b.Sealed → s2.Base.Cut = b.Cut → s2.Conf.Epoch = 1 → s2.Conf.Fresh = false →
    Tot (spec_NewChain_6 i z (impl_Config.mk 1 [] false) s2 t3 t4 t5 t6 t7 t8 t9 b.Pairs b.Known M N U [] []) (fun x => ChOk x.1 ∧ x.1.Base = b)
  | 0, i, s2, N, U, hj, h0, hn, hu, hN, b1, b2, b3, b4, b5 => by
    rw [spec_NewChain_6_eq, cond_dec, if_neg (by omega), b1, b2, b3, b4, b5]
    exact Tot.val ⟨⟨hb, hm, by show N.length = 5; omega, by show U.length = 5; omega, hN, ⟨Nat.zero_le _, fun m h => by cases h⟩, ⟨Nat.zero_le _, fun m h => by cases h⟩⟩, rfl⟩
  | j + 1, i, s2, N, U, hj, h0, hn, hu, hN, b1, b2, b3, b4, b5 => by
    have hc := (configOk_iff _).1 hm
    have n1 : M.length ≤ 4 := hc.n1
    rw [spec_NewChain_6_eq, cond_dec, if_pos (by omega), w64 (n := i + 1) (by omega) (by omega)]
    refine (l16Index_t (impl_Config.mk 1 M false) i (show M.length ≤ 1000 by omega)).bind fun q hq => ?_
    rw [cond_dec, l16Copy_f _ (show M.length ≤ 1000 by omega)]
    refine Tot.ite (fun _ => ?_) fun _ => ?_
    · rw [Option.bind_some, ble_row (by simp; omega) (by omega), cond_true, ble_row (by simp; omega) (by omega), cond_true]
      refine newChain_l b M hb hm z t3 t4 t5 t6 t7 t8 t9 j (i + 1) _ _ _ (by omega) (by omega) (by simp; omega) (by simp; omega) (fun r hr => ?_) b1 b2 b3 b4 b5
      rcases List.mem_append.1 hr with hr | hr
      · exact hN r hr
      · rw [List.mem_singleton.1 hr]; exact ⟨replicaOk_mk hm rfl (.inl rfl), Int.le_refl _⟩
    · rw [ble_row (by simp; omega) (by omega), cond_true, ble_row (by simp; omega) (by omega), cond_true]
      refine newChain_l b M hb hm z t3 t4 t5 t6 t7 t8 t9 j (i + 1) _ _ _ (by omega) (by omega) (by simp; omega) (by simp; omega) (fun r hr => ?_) b1 b2 b3 b4 b5
      rcases List.mem_append.1 hr with hr | hr
      · exact hN r hr
      · rw [List.mem_singleton.1 hr]; exact ⟨rfl, by dsimp only; omega⟩
theorem newChain_b (b : impl_State) (M : List Int) (hb : stateOk b = true) (hm : configOk ⟨1, M, false⟩ = true) : Tot (spec_NewChain b M) (fun x => ChOk x.1 ∧ x.1.Base = b) := by
  have n1 : M.length ≤ 4 := ((configOk_iff _).1 hm).n1
  have hk := sessOk_len ((stateOk_iff _).1 hb).2.2.1
  have hp := pairsOk_le ((stateOk_iff _).1 hb).2.1
  rw [spec_NewChain_eq, ble_row (by simp; omega) (by omega), cond_true, spec_StateValid_f b (by omega), Option.bind_some, hb, spec_ConfigValid_f, Option.bind_some, hm, spec_l10Copy_f b (by omega) (by omega), Option.bind_some]
  exact newChain_l b M hb hm _ _ _ _ _ _ _ _ 5 0 _ [] [] (by omega) (by omega) rfl rfl (fun r h => by cases h) rfl rfl rfl rfl rfl
theorem newChain_t (b : impl_State) (M : List Int) (hb : stateOk b = true) (hm : configOk ⟨1, M, false⟩ = true) : Tot (spec_NewChain b M) (fun x => ChOk x.1) := (newChain_b b M hb hm).mono fun x hx => hx.1
def memGo : Nat → Int → Int → List Int
  | 0, _, _ => []
  | k + 1, a, s => a :: memGo k (Int.tmod (a + s) 5) s
theorem memGo_ok : ∀ a : Fin 5, ∀ s : Fin 4, ∀ k : Fin 4, configOk ⟨1, memGo (k.val + 1) (a.val : Int) ((s.val : Int) + 1), false⟩ = true := by decide
theorem members5_t (s : Int) (hs : 1 ≤ s ∧ s ≤ 4) : ∀ (k : Nat) (a : Int) (r : spec_l20Rd) (out : List Int), k ≤ 4 → 0 ≤ a ∧ a ≤ 4 → out.length + k ≤ 10 → spec_l20Members_5 0 a s (k : Int) r out = some (out ++ memGo k a s, (r, ()))
  | 0, a, r, out, hk, ha, ho => by
    rw [spec_l20Members_5_eq, cond_dec, if_neg (by omega), odd0, Option.bind_some, cond_false]; simp [memGo]
  | k + 1, a, r, out, hk, ha, ho => by
    have ht := tmod_range (a := a + s) (n := 5) (by omega) (by omega)
    rw [spec_l20Members_5_eq, cond_dec, if_pos (by omega), ble_row (by simp; omega) (by omega), cond_true, w64 (n := a + s) (by omega) (by omega), w64 (n := ((k + 1 : Nat) : Int) - 1) (by omega) (by omega), show ((k + 1 : Nat) : Int) - 1 = (k : Int) by omega]
    rw [members5_t s hs k _ r (out ++ [a]) (by omega) (by omega) (by simp; omega)]
    simp [memGo]
theorem members_v {n : Int} {r : spec_l20Rd} (h : Rdr n r) (hn : n ≤ 500000000) : Tot (spec_l20Members r 0) (fun x => configOk ⟨1, x.1, false⟩ = true ∧ Rdr (n + 3) x.2.1) := by
  rw [spec_l20Members_eq]
  refine (pick_t h (by omega) (by omega)).bind fun x hx => (pick_t hx.2 (by omega) (by omega)).bind fun y hy => (pick_t hy.2 (by omega) (by omega)).bind fun z hz => ?_
  have x1 := hx.1.2 (by omega)
  have x0 := hx.1.1
  have y1 := hy.1.2 (by omega)
  have y0 := hy.1.1
  have z1 := hz.1.2 (by omega)
  have z0 := hz.1.1
  rw [w64 (n := 1 + y.1) (by omega) (by omega), w64 (n := 1 + z.1) (by omega) (by omega), show 1 + z.1 = ((z.1.toNat + 1 : Nat) : Int) by omega, members5_t (1 + y.1) (by omega) (z.1.toNat + 1) x.1 z.2.1 [] (by omega) (by omega) (by simp; omega)]
  refine Tot.val ⟨?_, hz.2.up (by omega)⟩
  have := memGo_ok ⟨x.1.toNat, by omega⟩ ⟨y.1.toNat, by omega⟩ ⟨z.1.toNat, by omega⟩
  dsimp only at this
  rw [show ((x.1.toNat : Nat) : Int) = x.1 by omega, show ((y.1.toNat : Nat) : Int) + 1 = 1 + y.1 by omega] at this
  exact this
end Go.Proofs.YtlffjoabajdfnaaGreat.Ev
