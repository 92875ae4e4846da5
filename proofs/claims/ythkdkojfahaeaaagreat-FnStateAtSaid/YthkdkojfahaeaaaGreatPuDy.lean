/- Chains that are drawn, with faults and without. No condition. -/
import Derived.Test.YthkdkojfahaeaaaGreatPuDx
set_option linter.unusedVariables false
set_option linter.unusedSimpArgs false
namespace Go.Proofs.YthkdkojfahaeaaaGreat.Ev
open Go.Proofs.YthkdkojfahaeaaaGreat.Eng
open Go.RowKit (wrap64)
/-! ### Configurations -/
theorem cfg14_t {n m : Int} {r : spec_l20Rd} (h : Rdr n r) (hn : n ≤ 800000000) (hm : m ≤ 1000000) (s1 s2 : impl_Config) (s3 s4 : List Int) (hc : CfgOk ⟨s2.Epoch, s4, s2.Fresh⟩) : Tot (spec_l20Config_14 m r s1 s2 s3 s4) (fun x => (m = 0 → CfgOk x.1) ∧ Rdr (n + 2) x.2.1) := by
  rw [spec_l20Config_14_eq]
  by_cases hm0 : m = 0
  · subst hm0
    rw [odd0, Option.bind_some, cond_false]; exact Tot.val ⟨fun _ => hc, h.up (by omega)⟩
  · refine (odd_t h (by omega) hm).bind fun x hx => Tot.bif (fun _ => ?_) fun _ => Tot.val ⟨fun e => absurd e hm0, hx.up (by omega)⟩
    refine (pick_t hx (by omega) (by omega)).bind fun y hy => ?_
    have y1 := hy.1.2 (by omega)
    simp only [cond_dec, List.length_cons, List.length_nil]
    rw [if_pos hy.1.1, if_pos (by omega)]
    exact Tot.val ⟨fun e => absurd e hm0, hy.2.up (by omega)⟩
theorem cfg3_t {n m : Int} (hn : n ≤ 700000000) (hm : m ≤ 1000000) (s1 : impl_Config) (s3 : List Int) : ∀ (k : Nat) (r : spec_l20Rd) (s2 : impl_Config) (s4 : List Int), k ≤ 10 → Rdr (n + 5 * (10 - k)) r → CfgOk ⟨s2.Epoch, s4, s2.Fresh⟩ → Tot (spec_l20Config_3 m (k : Int) r s1 s2 s3 s4) (fun x => (m = 0 → CfgOk x.1) ∧ Rdr (n + 60) x.2.1)
  | 0, r, s2, s4, hk, h, hc => by
    rw [spec_l20Config_3_eq]
    simp only [cond_dec]
    rw [if_neg (by omega)]
    refine (pick_t h (by omega) (by omega)).bind fun x hx => Tot.ite (fun _ => ?_) fun _ => (cfg14_t hx.2 (by omega) hm s1 s2 s3 s4 hc).mono fun y hy => ⟨hy.1, hy.2.up (by omega)⟩
    refine (pick_t hx.2 (by omega) (by omega)).bind fun y hy => ?_
    have y1 := hy.1.2 (by omega)
    simp only [List.length_cons, List.length_nil]
    rw [if_pos hy.1.1, if_pos (by omega)]
    refine (cfg14_t hy.2 (by omega) hm s1 _ s3 s4 ?_).mono fun y hy => ⟨hy.1, hy.2.up (by omega)⟩
    have h1 : y.1 = 0 ∨ y.1 = 1 := by have := hy.1.1; omega
    refine ⟨?_, ?_, hc.n0, hc.n1, hc.fresh, hc.nodup, hc.nodes⟩
    · show 1 ≤ rdAt [(60 : Int), 59] (Int.toNat y.1) 0
      rcases h1 with e | e <;> rw [e] <;> decide
    · show rdAt [(60 : Int), 59] (Int.toNat y.1) 0 ≤ 60
      rcases h1 with e | e <;> rw [e] <;> decide
  | k + 1, r, s2, s4, hk, h, hc => by
    have c10 : ∀ {r : spec_l20Rd} {s2 : impl_Config} {s4 : List Int}, Rdr (n + 5 * (10 - (k + 1 : Int)) + 3) r → CfgOk ⟨s2.Epoch, s4, s2.Fresh⟩ → Tot (spec_l20Config_10 m ((k + 1 : Nat) : Int) r s1 s2 s3 s4) (fun x => (m = 0 → CfgOk x.1) ∧ Rdr (n + 60) x.2.1) := by
      intro r s2 s4 h hc
      rw [spec_l20Config_10_eq, w64 (n := ((k + 1 : Nat) : Int) - 1) (by omega) (by omega), show ((k + 1 : Nat) : Int) - 1 = (k : Int) by omega]
      simp only [cond_dec]
      refine (pick_t h (by omega) (by omega)).bind fun x hx => Tot.ite (fun _ => ?_) fun _ => cfg3_t hn hm s1 s3 k _ s2 s4 (by omega) (hx.2.up (by omega)) hc
      exact (configDone_t _ hc).bind fun y hy => cfg3_t hn hm s1 s3 k _ _ _ (by omega) (hx.2.up (by omega)) hy.1
    rw [spec_l20Config_3_eq]
    simp only [cond_dec]
    rw [if_pos (by omega)]
    refine (pick_t h (by omega) (by omega)).bind fun x hx => (withMember_t _ x.1 hc ⟨hx.1.1, by have := hx.1.2 (by omega); omega⟩).bind fun y hy => (pick_t hx.2 (by omega) (by omega)).bind fun z hz => Tot.ite (fun _ => ?_) fun _ => ?_
    · refine (pick_t hz.2 (by omega) (by omega)).bind fun u hu => (withoutMember_t _ u.1 hc).bind fun v hv => Tot.bif (fun _ => ?_) fun _ => ?_
      · exact c10 (hu.2.up (by omega)) hv.1
      · exact c10 (hu.2.up (by omega)) hc
    · refine Tot.bif (fun _ => ?_) fun _ => ?_
      · exact c10 (hz.2.up (by omega)) hy.1
      · exact c10 (hz.2.up (by omega)) hc
theorem config_t {n m : Int} {r : spec_l20Rd} (h : Rdr n r) (hn : n ≤ 600000000) (hm : m ≤ 1000000) : Tot (spec_l20Config r m) (fun x => (m = 0 → CfgOk x.1) ∧ Rdr (n + 70) x.2.1) := by
  rw [spec_l20Config_eq]
  refine (pick_t h (by omega) (by omega)).bind fun x hx => (pick_t hx.2 (by omega) (by omega)).bind fun y hy => ?_
  have x1 := hx.1.2 (by omega)
  have x0 := hx.1.1
  have y1 := hy.1.2 (by omega)
  have y0 := hy.1.1
  have := cfg3_t (n := n + 2) (by omega) hm (impl_Config.mk 0 [] false) [] y.1.toNat y.2.1 (impl_Config.mk 1 [] false) [x.1] (by omega) (hy.2.up (by omega)) ⟨(by decide : (1 : Int) ≤ 1), (by decide : (1 : Int) ≤ 60), by simp, by simp, by simp, by simp, by simp; omega⟩
  rw [show ((y.1.toNat : Nat) : Int) = y.1 by omega] at this
  exact this.mono fun z hz => ⟨hz.1, hz.2.up (by omega)⟩
/-! ### Replicas, messages, bags, replies -/
theorem replica_t {n m : Int} {r : spec_l20Rd} (h : Rdr n r) (hn : n ≤ 50000000) (hm : m ≤ 1000000) : Tot (spec_l20Replica r m) (fun x => x.1.Log.length ≤ 100 ∧ Rdr (n + 13000) x.2.1) := by
  have r6 : ∀ {r : spec_l20Rd} {s1 s2 : impl_Replica} {s3 : List Int} {s4 : List impl_Entry} {s5 : List Int} {s6 : List impl_Entry}, Rdr (n + 6100) r → s6.length ≤ 100 → Tot (spec_l20Replica_6 m r s1 s2 s3 s4 s5 s6) (fun x => x.1.Log.length ≤ 100 ∧ Rdr (n + 13000) x.2.1) := by
    intro r s1 s2 s3 s4 s5 s6 h hl
    rw [spec_l20Replica_6_eq]
    simp only [cond_dec]
    refine (odd_t h (by omega) hm).bind fun x hx => Tot.bif (fun _ => ?_) fun _ => Tot.val ⟨hl, hx.up (by omega)⟩
    refine (pick_t hx (by omega) (by omega)).bind fun y hy => Tot.ite (fun _ => ?_) fun _ => Tot.ite (fun _ => ?_) fun _ => Tot.ite (fun _ => ?_) fun _ => Tot.val ⟨by simp, hy.2.up (by omega)⟩
    · exact (config_t hy.2 (by omega) (by omega)).bind fun z hz => Tot.val ⟨hl, hz.2.up (by omega)⟩
    · exact (log_t hy.2 (by omega) (by omega)).bind fun z hz => Tot.val ⟨hz.1, hz.2.up (by omega)⟩
    · exact (entry_t hy.2 (by omega) (by omega)).bind fun z hz => Tot.val ⟨by simp, hz.up (by omega)⟩
  have r4 : ∀ {r : spec_l20Rd} {s1 s2 : impl_Replica} {s3 : List Int} {s4 : List impl_Entry} {s5 : List Int} {s6 : List impl_Entry}, Rdr (n + 6090) r → s6.length ≤ 100 → Tot (spec_l20Replica_4 m r s1 s2 s3 s4 s5 s6) (fun x => x.1.Log.length ≤ 100 ∧ Rdr (n + 13000) x.2.1) := by
    intro r s1 s2 s3 s4 s5 s6 h hl
    rw [spec_l20Replica_4_eq]
    simp only [cond_dec]
    exact (pick_t h (by omega) (by omega)).bind fun x hx => Tot.ite (fun _ => r6 (hx.2.up (by omega)) (by simp)) fun _ => r6 (hx.2.up (by omega)) hl
  rw [spec_l20Replica_eq]
  simp only [cond_dec]
  refine (config_t h (by omega) (by omega)).bind fun x hx => (pick_t hx.2 (by omega) (by omega)).bind fun y hy => Tot.ite (fun _ => ?_) fun _ => r4 (hy.2.up (by omega)) (by simp)
  exact (log_t hy.2 (by omega) (by omega)).bind fun z hz => r4 (hz.2.up (by omega)) hz.1
theorem message_t {n m : Int} {r : spec_l20Rd} (h : Rdr n r) (hn : n ≤ 50000000) (hm : m ≤ 1000000) : Tot (spec_l20Message r m) (fun x => x.1.Log.length ≤ 100 ∧ Rdr (n + 13000) x.2.1) := by
  have m8 : ∀ {r : spec_l20Rd} {s1 s2 : impl_Message} {s3 : List Int} {s4 : List impl_Entry} {s5 : List Int} {s6 : List impl_Entry}, Rdr (n + 6100) r → s6.length ≤ 100 → Tot (spec_l20Message_8 m r s1 s2 s3 s4 s5 s6) (fun x => x.1.Log.length ≤ 100 ∧ Rdr (n + 13000) x.2.1) := by
    intro r s1 s2 s3 s4 s5 s6 h hl
    rw [spec_l20Message_8_eq]
    simp only [cond_dec, List.length_cons, List.length_nil]
    refine (odd_t h (by omega) hm).bind fun x hx => Tot.bif (fun _ => ?_) fun _ => Tot.val ⟨hl, hx.up (by omega)⟩
    have two : ∀ {r : spec_l20Rd} {f : Int × spec_l20Rd × Unit → Option (impl_Message × spec_l20Rd × Unit)}, Rdr (n + 6102) r → (∀ z : Int × spec_l20Rd × Unit, Rdr (n + 6103) z.2.1 → Tot (f z) (fun x => x.1.Log.length ≤ 100 ∧ Rdr (n + 13000) x.2.1)) →
        Tot ((spec_l20Rd_pick r 2).bind fun z => if 0 ≤ z.1 then if z.1 < (((0 + 1 + 1 : Nat)) : Int) then f z else none else none) (fun x => x.1.Log.length ≤ 100 ∧ Rdr (n + 13000) x.2.1) := by
      intro r f h k
      refine (pick_t h (by omega) (by omega)).bind fun z hz => ?_
      have z1 := hz.1.2 (by omega)
      rw [if_pos hz.1.1, if_pos (by omega)]
      exact k z (hz.2.up (by omega))
    refine (pick_t hx (by omega) (by omega)).bind fun y hy => Tot.ite (fun _ => ?_) fun _ => Tot.ite (fun _ => ?_) fun _ => Tot.ite (fun _ => ?_) fun _ => Tot.ite (fun _ => ?_) fun _ => ?_
    · exact two (hy.2.up (by omega)) fun z hz => Tot.val ⟨hl, hz.up (by omega)⟩
    · exact two (hy.2.up (by omega)) fun z hz => Tot.val ⟨hl, hz.up (by omega)⟩
    · exact two (hy.2.up (by omega)) fun z hz => Tot.val ⟨hl, hz.up (by omega)⟩
    · exact (log_t hy.2 (by omega) (by omega)).bind fun z hz => Tot.val ⟨hz.1, hz.2.up (by omega)⟩
    · exact (config_t hy.2 (by omega) (by omega)).bind fun z hz => Tot.val ⟨hl, hz.2.up (by omega)⟩
  rw [spec_l20Message_eq]
  simp only [cond_dec]
  refine (config_t h (by omega) (by omega)).bind fun x hx => (pick_t hx.2 (by omega) (by omega)).bind fun y hy => (pick_t hy.2 (by omega) (by omega)).bind fun z hz => Tot.ite (fun _ => ?_) fun _ => Tot.ite (fun _ => ?_) fun _ => m8 (hz.2.up (by omega)) (by simp)
  · exact (pick_t hz.2 (by omega) (by omega)).bind fun a ha => (pick_t ha.2 (by omega) (by omega)).bind fun b hb => (log_t hb.2 (by omega) (by omega)).bind fun c hc => m8 (hc.2.up (by omega)) hc.1
  · exact (pick_t hz.2 (by omega) (by omega)).bind fun a ha => m8 (ha.2.up (by omega)) (by simp)
def ShortB (l : List impl_Message) : Prop := l.length ≤ 100 ∧ ∀ m ∈ l, m.Log.length ≤ 100
theorem ShortB.add {l : List impl_Message} {m : impl_Message} {n : Nat} (h : l.length ≤ n ∧ ∀ m ∈ l, m.Log.length ≤ 100) (hm : m.Log.length ≤ 100) : (l ++ [m]).length ≤ n + 1 ∧ ∀ x ∈ l ++ [m], x.Log.length ≤ 100 := by
  refine ⟨by simp; exact h.1, fun x hx => ?_⟩
  rcases List.mem_append.1 hx with hx | hx
  · exact h.2 x hx
  · rw [List.mem_singleton.1 hx]; exact hm
theorem bag10_t {n : Int} (hn : n ≤ 40000000) : ∀ (j : Nat) (r : spec_l20Rd) (l : List impl_Message), l.length + j = 13 → j ≤ 13 → Rdr (n + 13000 * (13 - j)) r → (∀ m ∈ l, m.Log.length ≤ 100) → Tot (spec_l20Bag_10 r l) (fun x => ShortB x.1 ∧ Rdr (n + 200000) x.2.1)
  | 0, r, l, hj, hj2, h, hl => by
    rw [spec_l20Bag_10_eq, cond_dec, if_neg (by omega)]; exact Tot.val ⟨⟨by show l.length ≤ 100; omega, hl⟩, h.up (by omega)⟩
  | j + 1, r, l, hj, hj2, h, hl => by
    rw [spec_l20Bag_10_eq, cond_dec]
    refine Tot.ite (fun hlt => ?_) fun _ => Tot.val ⟨⟨by show l.length ≤ 100; omega, hl⟩, h.up (by omega)⟩
    refine (message_t h (by omega) (by omega)).bind fun x hx => ?_
    rw [ble_row (by simp; omega) (by omega), cond_true]
    exact bag10_t hn j _ _ (by simp; omega) (by omega) (hx.2.up (by omega)) (ShortB.add (n := 100) ⟨by omega, hl⟩ hx.1).2
theorem bag5_t {n m : Int} (hn : n ≤ 30000000) (hm : m ≤ 1000000) (q : Int) (hq : q ≤ 10) : ∀ (j : Nat) (r : spec_l20Rd) (l : List impl_Message), l.length + j = 11 → j ≤ 11 → Rdr (n + 13000 * (11 - j)) r → (∀ m ∈ l, m.Log.length ≤ 100) → Tot (spec_l20Bag_5 m q r l) (fun x => ShortB x.1 ∧ Rdr (n + 400000) x.2.1)
  | 0, r, l, hj, hj2, h, hl => by
    rw [spec_l20Bag_5_eq]
    simp only [cond_dec]
    rw [if_neg (by omega)]
    refine (odd_t h (by omega) hm).bind fun x hx => Tot.bif (fun _ => ?_) fun _ => Tot.val ⟨⟨by show l.length ≤ 100; omega, hl⟩, hx.up (by omega)⟩
    refine (pick_t hx (by omega) (by omega)).bind fun y hy => Tot.ite (fun _ => ?_) fun _ => ?_
    · refine (message_t hy.2 (by omega) (by omega)).bind fun z hz => ?_
      rw [ble_row (by simp; omega) (by omega), cond_true]
      exact Tot.val ⟨⟨by simp; omega, (ShortB.add (n := 100) ⟨by omega, hl⟩ hz.1).2⟩, hz.2.up (by omega)⟩
    · exact (bag10_t (n := n + 150000) (by omega) 2 _ _ (by omega) (by omega) (hy.2.up (by omega)) hl).mono fun z hz => ⟨hz.1, hz.2.up (by omega)⟩
  | j + 1, r, l, hj, hj2, h, hl => by
    rw [spec_l20Bag_5_eq]
    simp only [cond_dec]
    refine Tot.ite (fun _ => ?_) fun _ => ?_
    · refine (message_t h (by omega) (by omega)).bind fun x hx => ?_
      rw [ble_row (by simp; omega) (by omega), cond_true]
      exact bag5_t hn hm q hq j _ _ (by simp; omega) (by omega) (hx.2.up (by omega)) (ShortB.add (n := 100) ⟨by omega, hl⟩ hx.1).2
    · refine (odd_t h (by omega) hm).bind fun x hx => Tot.bif (fun _ => ?_) fun _ => Tot.val ⟨⟨by show l.length ≤ 100; omega, hl⟩, hx.up (by omega)⟩
      refine (pick_t hx (by omega) (by omega)).bind fun y hy => Tot.ite (fun _ => ?_) fun _ => ?_
      · refine (message_t hy.2 (by omega) (by omega)).bind fun z hz => ?_
        rw [ble_row (by simp; omega) (by omega), cond_true]
        exact Tot.val ⟨⟨by simp; omega, (ShortB.add (n := 100) ⟨by omega, hl⟩ hz.1).2⟩, hz.2.up (by omega)⟩
      · exact (bag10_t (n := n + 150000) (by omega) (13 - l.length) _ _ (by omega) (by omega) (hy.2.up (by omega)) hl).mono fun z hz => ⟨hz.1, hz.2.up (by omega)⟩
theorem bag_t {n m : Int} {r : spec_l20Rd} (h : Rdr n r) (hn : n ≤ 20000000) (hm : m ≤ 1000000) : Tot (spec_l20Bag r m) (fun x => ShortB x.1 ∧ Rdr (n + 400100) x.2.1) := by
  rw [spec_l20Bag_eq]
  simp only [cond_dec]
  refine (pick_t h (by omega) (by omega)).bind fun x hx => (pick_t hx.2 (by omega) (by omega)).bind fun y hy => Tot.ite (fun _ => ?_) fun _ => ?_
  · refine (pick_t hy.2 (by omega) (by omega)).bind fun z hz => ?_
    have z1 := hz.1.2 (by omega)
    have z0 := hz.1.1
    rw [w64 (n := 10 - z.1) (by omega) (by omega)]
    exact (bag5_t (n := n + 10) (by omega) hm (10 - z.1) (by omega) 11 _ [] (by simp) (by omega) (hz.2.up (by omega)) fun m h => by cases h).mono fun z hz => ⟨hz.1, hz.2.up (by omega)⟩
  · have x1 := hx.1.2 (by omega)
    exact (bag5_t (n := n + 10) (by omega) hm x.1 (by omega) 11 _ [] (by simp) (by omega) (hy.2.up (by omega)) fun m h => by cases h).mono fun z hz => ⟨hz.1, hz.2.up (by omega)⟩
theorem reply_t {n m : Int} {r : spec_l20Rd} (h : Rdr n r) (hn : n ≤ 600000000) (hm : m ≤ 1000000) : Tot (spec_l20Reply r m) (fun x => Rdr (n + 3) x.2.1) := by
  rw [spec_l20Reply_eq]
  simp only [cond_dec, List.length_cons, List.length_nil]
  refine (odd_t h (by omega) hm).bind fun x hx => Tot.bif (fun _ => ?_) fun _ => ?_
  · refine (pick_t hx (by omega) (by omega)).bind fun y hy => ?_
    have y1 := hy.1.2 (by omega)
    rw [if_pos hy.1.1, if_pos (by omega)]; exact Tot.val (hy.2.up (by omega))
  · refine (pick_t hx (by omega) (by omega)).bind fun z hz => (pick_t hz.2 (by omega) (by omega)).bind fun y hy => ?_
    have y1 := hy.1.2 (by omega)
    rw [if_pos hy.1.1, if_pos (by omega)]; exact Tot.val (hy.2.up (by omega))
/-! ### Chains -/
structure ChShort (c : impl_Chain) : Prop where
  inn : ChainIn c
  ans : c.Answers.length ≤ 100
theorem chain23_t {n : Int} {r : spec_l20Rd} (h : Rdr n r) (s1 s2 : impl_Chain) (s3 : List impl_Pair) (s4 : List impl_Session) (s5 : List Int) (s6 : List impl_Replica) (s7 : List Bool) (s8 : List impl_Message) (s9 : List impl_Answer) (P : List impl_Pair) (K : List impl_Session) (M : List Int) (N : List impl_Replica) (U : List Bool) (B : List impl_Message) (A : List impl_Answer)
    (hk : K.length ≤ 1000) (hn : ∀ r ∈ N, r.Log.length ≤ 1000) (hb : ∀ m ∈ B, m.Log.length ≤ 1000) (ha : A.length ≤ 100) : Tot (spec_l20Chain_23 r s1 s2 s3 s4 s5 s6 s7 s8 s9 P K M N U B A) (fun x => ChShort x.1 ∧ Rdr n x.2.1) := by
  rw [spec_l20Chain_23_eq]
  exact Tot.val ⟨⟨⟨by show K.length ≤ _; omega, fun r hr => Nat.le_trans (hn r hr) (by omega), fun m hm => Nat.le_trans (hb m hm) (by omega)⟩, ha⟩, h⟩
theorem chain5_t {n : Int} (hn' : n ≤ 100000000) (s1 : impl_Chain) (s3 : List impl_Pair) (s4 : List impl_Session) (s5 : List Int) (s6 : List impl_Replica) (s7 : List Bool) (s8 : List impl_Message) (s9 : List impl_Answer) (P : List impl_Pair) (K : List impl_Session) (M : List Int) (N : List impl_Replica) (U : List Bool) (B : List impl_Message)
    (hk : K.length ≤ 1000) (hn : ∀ r ∈ N, r.Log.length ≤ 1000) (hb : ∀ m ∈ B, m.Log.length ≤ 1000) : ∀ (j : Nat) (r : spec_l20Rd) (s2 : impl_Chain) (A : List impl_Answer), A.length + j = 30 → j ≤ 30 → Rdr (n + 31 * (30 - j)) r → Tot (spec_l20Chain_5 r s1 s2 s3 s4 s5 s6 s7 s8 s9 P K M N U B A) (fun x => ChShort x.1 ∧ Rdr (n + 1000) x.2.1)
  | 0, r, s2, A, hj, hj2, h => by
    rw [spec_l20Chain_5_eq]
    simp only [cond_dec]
    refine (pick_t h (by omega) (by omega)).bind fun x hx => ?_
    have x1 := hx.1.2 (by omega)
    have x0 := hx.1.1
    rw [w64 (n := 24 - x.1) (by omega) (by omega), if_neg (by omega)]
    exact (chain23_t hx.2 s1 s2 s3 s4 s5 s6 s7 s8 s9 P K M N U B A hk hn hb (by omega)).mono fun x hx => ⟨hx.1, hx.2.up (by omega)⟩
  | j + 1, r, s2, A, hj, hj2, h => by
    rw [spec_l20Chain_5_eq]
    simp only [cond_dec]
    refine (pick_t h (by omega) (by omega)).bind fun x hx => Tot.ite (fun _ => ?_) fun _ => (chain23_t hx.2 s1 s2 s3 s4 s5 s6 s7 s8 s9 P K M N U B A hk hn hb (by omega)).mono fun x hx => ⟨hx.1, hx.2.up (by omega)⟩
    refine (entry_t hx.2 (by omega) (by omega)).bind fun y hy => ?_
    rw [ble_row (by simp; omega) (by omega), cond_true]
    exact chain5_t hn' s1 s3 s4 s5 s6 s7 s8 s9 P K M N U B hk hn hb j _ _ _ (by simp; omega) (by omega) (hy.up (by omega))
set_option maxHeartbeats 2000000 in
theorem chain_t {n m : Int} {r : spec_l20Rd} (h : Rdr n r) (hn : n ≤ 10000000) (hm : m ≤ 1000000) : Tot (spec_l20Chain r m) (fun x => ChShort x.1 ∧ Rdr (n + 1000000) x.2.1) := by
  rw [spec_l20Chain_eq]
  refine (pick_t h (by omega) (by omega)).bind fun x hx => (pick_t hx.2 (by omega) (by omega)).bind fun y hy => (pick_t hy.2 (by omega) (by omega)).bind fun z hz => ?_
  have x1 := hx.1.2 (by omega)
  have x0 := hx.1.1
  have y1 := hy.1.2 (by omega)
  have y0 := hy.1.1
  have z1 := hz.1.2 (by omega)
  have z0 := hz.1.1
  have e2 : wrap64 (Int.tdiv z.1 2) = z.1 / 2 := by rw [Int.tdiv_eq_ediv_of_nonneg z0, w64 (by omega) (by omega)]
  have y2 : wrap64 (20 + y.1) = 20 + y.1 := w64 (by omega) (by omega)
  have pm : ∀ a b i : Int, i = 0 ∨ i = 1 → (0 ≤ a ∧ a ≤ 60) → (0 ≤ b ∧ b ≤ 60) → 0 ≤ rdAt [a, b] i.toNat 0 ∧ rdAt [a, b] i.toNat 0 ≤ 60 := by
    rintro a b i (rfl | rfl) ha hb
    · exact ha
    · exact hb
  have hpm := pm x.1 (20 + y.1) (z.1 / 2) (by omega) ⟨x0, by omega⟩ ⟨by omega, by omega⟩
  simp only [e2, y2, List.length_cons, List.length_nil]
  rw [cond_dec, if_pos (by omega), cond_dec, if_pos (by omega)]
  refine (play_t hz.2 (by omega) _ hpm).bind fun p hp => (chainPlay_t p.1.1 p.1.2.1 hp.1.1 hp.1.2.1 hp.1.2.2).bind fun q hq => (odd_t hp.2 (by omega) hm).bind fun o ho => ?_
  generalize q.1 = c at hq ⊢
  have hc := hq.ok
  have K0 : c.Base.Known.length ≤ 1000 := by have := sessOk_len ((stateOk_iff _).1 hc.base).2.2.1; omega
  have N0 : ∀ r ∈ c.Nodes, r.Log.length ≤ 1000 := fun r hr => by have := (replicaOk_len (hc.nodes r hr).1).2; omega
  have B0 : ∀ m ∈ c.Bag, m.Log.length ≤ 1000 := fun m hm => by have := (messageOk_len (hc.bag.2 m hm).1).2; omega
  have A0 : c.Answers.length ≤ 24 := hc.ans.1
  have n5 := hc.n5
  have u5 := hc.u5
  refine Tot.bif (fun _ => ?_) fun _ => (chain23_t ho _ _ _ _ _ _ _ _ _ _ _ _ _ _ _ _ K0 N0 B0 (by omega)).mono fun x hx => ⟨hx.1, hx.2.up (by omega)⟩
  refine (pick_t ho (by omega) (by omega)).bind fun k hk => ?_
  simp only [cond_dec]
  refine Tot.ite (fun _ => ?_) fun _ => Tot.ite (fun _ => ?_) fun _ => Tot.ite (fun _ => ?_) fun _ => Tot.ite (fun _ => ?_) fun _ => Tot.ite (fun _ => ?_) fun _ => Tot.ite (fun _ => ?_) fun _ => Tot.ite (fun _ => ?_) fun _ => Tot.ite (fun _ => ?_) fun _ => ?_
  · exact (state_t hk.2 (by omega) (by omega)).bind fun s hs => (chain23_t hs.2 _ _ _ _ _ _ _ _ _ _ _ _ _ _ _ _ (by have := hs.1.2; omega) N0 B0 (by omega)).mono fun x hx => ⟨hx.1, hx.2.up (by omega)⟩
  · exact (config_t hk.2 (by omega) (by omega)).bind fun s hs => (chain23_t hs.2 _ _ _ _ _ _ _ _ _ _ _ _ _ _ _ _ K0 N0 B0 (by omega)).mono fun x hx => ⟨hx.1, hx.2.up (by omega)⟩
  · refine (pick_t hk.2 (by omega) (by omega)).bind fun i hi => (replica_t hi.2 (by omega) (by omega)).bind fun s hs => ?_
    have i1 := hi.1.2 (by omega)
    rw [if_pos hi.1.1, if_pos (by omega)]
    refine (chain23_t hs.2 _ _ _ _ _ _ _ _ _ _ _ _ _ _ _ _ K0 (fun r hr => ?_) B0 (by omega)).mono fun x hx => ⟨hx.1, hx.2.up (by omega)⟩
    rcases mem_set hr with rfl | hr
    · have := hs.1; dsimp only; omega
    · exact N0 r hr
  · rw [if_pos (by omega)]
    exact (chain23_t hk.2 _ _ _ _ _ _ _ _ _ _ _ _ _ _ _ _ K0 (fun r hr => N0 r (by rw [show cutList c.Nodes 1 (c.Nodes.length : Int) = c.Nodes.drop 1 from cut_all c.Nodes 1] at hr; exact List.mem_of_mem_drop hr)) B0 (by omega)).mono fun x hx => ⟨hx.1, hx.2.up (by omega)⟩
  · rw [ble_row (by simp; omega) (by omega), cond_true]
    exact (chain23_t hk.2 _ _ _ _ _ _ _ _ _ _ _ _ _ _ _ _ K0 N0 B0 (by omega)).mono fun x hx => ⟨hx.1, hx.2.up (by omega)⟩
  · exact (bag_t hk.2 (by omega) (by omega)).bind fun s hs => (chain23_t hs.2 _ _ _ _ _ _ _ _ _ _ _ _ _ _ _ _ K0 N0 (fun m hm => Nat.le_trans (hs.1.2 m hm) (by omega)) (by omega)).mono fun x hx => ⟨hx.1, hx.2.up (by omega)⟩
  · refine (entry_t hk.2 (by omega) (by omega)).bind fun s hs => (reply_t hs (by omega) (by omega)).bind fun t ht => ?_
    rw [ble_row (by simp; omega) (by omega), cond_true]
    exact (chain23_t ht _ _ _ _ _ _ _ _ _ _ _ _ _ _ _ _ K0 N0 B0 (by simp; omega)).mono fun x hx => ⟨hx.1, hx.2.up (by omega)⟩
  · refine (pick_t hk.2 (by omega) (by omega)).bind fun i hi => (log_t hi.2 (by omega) (by omega)).bind fun s hs => ?_
    have i1 := hi.1.2 (by omega)
    rw [if_pos hi.1.1, if_pos (by omega)]
    refine (chain23_t hs.2 _ _ _ _ _ _ _ _ _ _ _ _ _ _ _ _ K0 (fun r hr => ?_) B0 (by omega)).mono fun x hx => ⟨hx.1, hx.2.up (by omega)⟩
    rcases mem_set hr with rfl | hr
    · have := hs.1; dsimp only; omega
    · exact N0 r hr
  · exact (chain5_t (n := n + 30000) (by omega) _ _ _ _ _ _ _ _ _ _ _ _ _ _ K0 N0 B0 (30 - c.Answers.length) _ _ _ (by omega) (by omega) (hk.2.up (by omega))).mono fun x hx => ⟨hx.1, hx.2.up (by omega)⟩
theorem DrawStateAt_t {l : List Int} (h : ∀ x ∈ l, 0 ≤ x ∧ x ≤ 255) : Tot (spec_DrawStateAt l) (fun x => ChShort x.1.1) := by
  rw [spec_DrawStateAt_eq]
  simp only [cond_dec]
  refine (spec_l20Open_t h).bind fun o ho => (chain_t ho (by omega) (by omega)).bind fun c hc => ?_
  have hl := hc.1.ans
  rw [eta_Chain, spec_ChainValid_f c.1 hc.1.inn, Option.bind_some]
  have fin : ∀ {d : impl_Chain} {r : spec_l20Rd}, Rdr 2000000 r → ChShort d → Tot ((spec_l20Rd_pick r (wrap64 ((d.Answers.length : Int) + 2))).bind fun a => (spec_l20Rd_pick a.2.1 14).bind fun b => some ((d, (wrap64 (a.1 - (wrap64 (Int.tdiv b.1 13))), ())), ())) (fun x => ChShort x.1.1) := by
    intro d r hr hd
    have hl := hd.ans
    rw [w64 (n := (d.Answers.length : Int) + 2) (by omega) (by omega)]
    exact (pick_t hr (by omega) (by omega)).bind fun a ha => (pick_t ha.2 (by omega) (by omega)).bind fun b hb => Tot.val hd
  refine Tot.bif (fun hv => ?_) fun _ => fin (hc.2.up (by omega)) hc.1
  refine (pick_t hc.2 (by omega) (by omega)).bind fun p hp => Tot.ite (fun _ => ?_) fun _ => fin (hp.2.up (by omega)) hc.1
  refine (chainSettle_t c.1 ((chainOk_iff _).1 hv)).bind fun s hs => fin (hp.2.up (by omega)) ⟨hs.ok.inn, by have := hs.ok.ans.1; omega⟩
end Go.Proofs.YthkdkojfahaeaaaGreat.Ev
