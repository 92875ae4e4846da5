/- Chains that are drawn, with faults and without. No condition. -/
import Derived.Test.YtlffjoabajdfnaaGreatPuDx
set_option linter.unusedVariables false
set_option linter.unusedSimpArgs false
namespace Go.Proofs.YtlffjoabajdfnaaGreat.Ev
open Go.Proofs.YtlffjoabajdfnaaGreat.Eng
open Go.RowKit (wrap64)
/-! ### Configurations -/
theorem cfg14_t {n m : Int} {r : spec_l20Rd} (h : Rdr n r) (hn : n ≤ 800000000) (hm : m ≤ 1000000) (s1 s2 : impl_Config) (s3 s4 : List Int) (hc : CfgOk ⟨s2.Epoch, s4, s2.Fresh⟩) : Tot (spec_l20Config_14 m r s1 s2 s3 s4) (fun x => (m = 0 → CfgOk x.1) ∧ Rdr (n + 2) x.2.1) := by
  rw [spec_l20Config_14_eq]
  by_cases hm0 : m = 0
  · subst hm0
    rw [odd0, Option.bind_some, cond_false]; exact Tot.val ⟨fun _ => hc, h.up (by omega)⟩
  · refine (odd_t h (by omega) hm).bind fun x hx => Tot.bif (fun _ => ?_) fun _ => Tot.val ⟨fun e => absurd e hm0, hx.up (by omega)⟩
    refine (pick_t hx (by omega) (by omega)).bind fun y hy => ?_
    have y1 := hy.1.2 (by omega)
    simp only [cond_dec, List.length_cons, List.length_nil]
    rw [if_pos hy.1.1, if_pos (by omega)]
    exact Tot.val ⟨fun e => absurd e hm0, hy.2.up (by omega)⟩
theorem cfg3_t {n m : Int} (hn : n ≤ 700000000) (hm : m ≤ 1000000) (s1 : impl_Config) (s3 : List Int) : ∀ (k : Nat) (r : spec_l20Rd) (s2 : impl_Config) (s4 : List Int), k ≤ 10 → Rdr (n + 5 * (10 - k)) r → CfgOk ⟨s2.Epoch, s4, s2.Fresh⟩ → Tot (spec_l20Config_3 m (k : Int) r s1 s2 s3 s4) (fun x => (m = 0 → CfgOk x.1) ∧ Rdr (n + 60) x.2.1)
  | 0, r, s2, s4, hk, h, hc => by
    rw [spec_l20Config_3_eq]
    simp only [cond_dec]
    rw [if_neg (by omega)]
    refine (pick_t h (by omega) (by omega)).bind fun x hx => Tot.ite (fun _ => ?_) fun _ => (cfg14_t hx.2 (by omega) hm s1 s2 s3 s4 hc).mono fun y hy => ⟨hy.1, hy.2.up (by omega)⟩
    refine (pick_t hx.2 (by omega) (by omega)).bind fun y hy => ?_
    have y1 := hy.1.2 (by omega)
    simp only [List.length_cons, List.length_nil]
    rw [if_pos hy.1.1, if_pos (by omega)]
    refine (cfg14_t hy.2 (by omega) hm s1 _ s3 s4 ?_).mono fun y hy => ⟨hy.1, hy.2.up (by omega)⟩
    have h1 : y.1 = 0 ∨ y.1 = 1 := by have := hy.1.1; omega
    refine ⟨?_, ?_, hc.n0, hc.n1, hc.fresh, hc.nodup, hc.nodes⟩
    · show 1 ≤ rdAt [(60 : Int), 59] (Int.toNat y.1) 0
      rcases h1 with e | e <;> rw [e] <;> decide
    · show rdAt [(60 : Int), 59] (Int.toNat y.1) 0 ≤ 60
      rcases h1 with e | e <;> rw [e] <;> decide
  | k + 1, r, s2, s4, hk, h, hc => by
    have c10 : ∀ {r : spec_l20Rd} {s2 : impl_Config} {s4 : List Int}, Rdr (n + 5 * (10 - (k + 1 : Int)) + 3) r → CfgOk ⟨s2.Epoch, s4, s2.Fresh⟩ → Tot (spec_l20Config_10 m ((k + 1 : Nat) : Int) r s1 s2 s3 s4) (fun x => (m = 0 → CfgOk x.1) ∧ Rdr (n + 60) x.2.1) := by
      intro r s2 s4 h hc
      rw [spec_l20Config_10_eq, w64 (n := ((k + 1 : Nat) : Int) - 1) (by omega) (by omega), show ((k + 1 : Nat) : Int) - 1 = (k : Int) by omega]
      simp only [cond_dec]
      refine (pick_t h (by omega) (by omega)).bind fun x hx => Tot.ite (fun _ => ?_) fun _ => cfg3_t hn hm s1 s3 k _ s2 s4 (by omega) (hx.2.up (by omega)) hc
      exact (configDone_t _ hc).bind fun y hy => cfg3_t hn hm s1 s3 k _ _ _ (by omega) (hx.2.up (by omega)) hy.1
    rw [spec_l20Config_3_eq]
    simp only [cond_dec]
    rw [if_pos (by omega)]
    refine (pick_t h (by omega) (by omega)).bind fun x hx => (withMember_t _ x.1 hc ⟨hx.1.1, by have := hx.1.2 (by omega); omega⟩).bind fun y hy => (pick_t hx.2 (by omega) (by omega)).bind fun z hz => Tot.ite (fun _ => ?_) fun _ => ?_
    · refine (pick_t hz.2 (by omega) (by omega)).bind fun u hu => (withoutMember_t _ u.1 hc).bind fun v hv => Tot.bif (fun _ => ?_) fun _ => ?_
      · exact c10 (hu.2.up (by omega)) hv.1
      · exact c10 (hu.2.up (by omega)) hc
    · refine Tot.bif (fun _ => ?_) fun _ => ?_
      · exact c10 (hz.2.up (by omega)) hy.1
      · exact c10 (hz.2.up (by omega)) hc
theorem config_t {n m : Int} {r : spec_l20Rd} (h : Rdr n r) (hn : n ≤ 600000000) (hm : m ≤ 1000000) : Tot (spec_l20Config r m) (fun x => (m = 0 → CfgOk x.1) ∧ Rdr (n + 70) x.2.1) := by
  rw [spec_l20Config_eq]
  refine (pick_t h (by omega) (by omega)).bind fun x hx => (pick_t hx.2 (by omega) (by omega)).bind fun y hy => ?_
  have x1 := hx.1.2 (by omega)
  have x0 := hx.1.1
  have y1 := hy.1.2 (by omega)
  have y0 := hy.1.1
  have := cfg3_t (n := n + 2) (by omega) hm (impl_Config.mk 0 [] false) [] y.1.toNat y.2.1 (impl_Config.mk 1 [] false) [x.1] (by omega) (hy.2.up (by omega)) ⟨(by decide : (1 : Int) ≤ 1), (by decide : (1 : Int) ≤ 60), by simp, by simp, by simp, by simp, by simp; omega⟩
  rw [show ((y.1.toNat : Nat) : Int) = y.1 by omega] at this
  exact this.mono fun z hz => ⟨hz.1, hz.2.up (by omega)⟩
/-! ### Replicas, messages, bags, replies -/
def ShortB (l : List impl_Message) : Prop := l.length ≤ 100 ∧ ∀ m ∈ l, m.Log.length ≤ 100
theorem ShortB.add {l : List impl_Message} {m : impl_Message} {n : Nat} (h : l.length ≤ n ∧ ∀ m ∈ l, m.Log.length ≤ 100) (hm : m.Log.length ≤ 100) : (l ++ [m]).length ≤ n + 1 ∧ ∀ x ∈ l ++ [m], x.Log.length ≤ 100 := by
  refine ⟨by simp; exact h.1, fun x hx => ?_⟩
  rcases List.mem_append.1 hx with hx | hx
  · exact h.2 x hx
  · rw [List.mem_singleton.1 hx]; exact hm
/-! ### Chains -/
end Go.Proofs.YtlffjoabajdfnaaGreat.Ev
