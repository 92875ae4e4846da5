/- How far the marks of a cluster count. No condition. -/
import Derived.Test.YtoiddibdlmcecaaGreatPuMk
set_option linter.unusedVariables false
set_option linter.unusedSimpArgs false
namespace Go.Proofs.YtoiddibdlmcecaaGreat.Ev
open Go.Proofs.YtoiddibdlmcecaaGreat.Eng
open Go.RowKit (wrap64)
theorem szReplicaS_len (xs : List laws_Replica) (k r : Int) (h0 : 0 ≤ k) (h1 : k ≤ 1048576) (hb : Bnd (.sl Y_laws_Replica) xs) (e : laws_szReplicaS xs k = some (r, ())) : r < 0 ∨ r + xs.length ≤ k := by
  obtain ⟨b0, b1⟩ := hb
  have b0 : xs.length ≤ 9223372036854775807 := b0
  rw [laws_szReplicaS_eq] at e
  simp only [cond_dec, w64 (n := k - (xs.length : Int)) (by omega) (by omega)] at e
  by_cases c : k - (xs.length : Int) < 0
  · rw [if_pos c] at e; cases e; exact .inl (by omega)
  · rw [if_neg c] at e
    obtain ⟨q, e', l, u, s⟩ := szReplicaS_l xs (by omega) b1 xs 0 (k - xs.length) (by omega) (by omega) rfl (by omega) (by omega)
    rw [e'] at e; cases e; exact .inr (by omega)
theorem szMessageS_len (xs : List laws_Message) (k r : Int) (h0 : 0 ≤ k) (h1 : k ≤ 1048576) (hb : Bnd (.sl Y_laws_Message) xs) (e : laws_szMessageS xs k = some (r, ())) : r < 0 ∨ r + xs.length ≤ k := by
  obtain ⟨b0, b1⟩ := hb
  have b0 : xs.length ≤ 9223372036854775807 := b0
  rw [laws_szMessageS_eq] at e
  simp only [cond_dec, w64 (n := k - (xs.length : Int)) (by omega) (by omega)] at e
  by_cases c : k - (xs.length : Int) < 0
  · rw [if_pos c] at e; cases e; exact .inl (by omega)
  · rw [if_neg c] at e
    obtain ⟨q, e', l, u, s⟩ := szMessageS_l xs (by omega) b1 xs 0 (k - xs.length) (by omega) (by omega) rfl (by omega) (by omega)
    rw [e'] at e; cases e; exact .inr (by omega)
theorem szChain_w (x : laws_Chain) (k r : Int) (h0 : 0 ≤ k) (h1 : k ≤ 1048576) (hb : Bnd Y_laws_Chain x) (e : laws_szChain x k = some (r, ())) : r < 0 ∨ r + x.Nodes.length + x.Bag.length ≤ k := by
  obtain ⟨_, b0, b1, b2, b3, b4, b5, _⟩ := hb
  rw [laws_szChain_eq] at e
  obtain ⟨r1, e1, l1, u1, s1⟩ := szState_f x.Base k (by omega) (by omega) b0
  rw [e1, Option.bind_some, cond_dec] at e
  by_cases n1 : r1 < 0
  · rw [if_pos n1] at e; cases e; exact .inl (by omega)
  rw [if_neg n1] at e
  obtain ⟨r2, e2, l2, u2, s2⟩ := szConfig_f x.Conf r1 (by omega) (by omega) b1
  rw [e2, Option.bind_some, cond_dec] at e
  by_cases n2 : r2 < 0
  · rw [if_pos n2] at e; cases e; exact .inl (by omega)
  rw [if_neg n2] at e
  obtain ⟨r3, e3, l3, u3, s3⟩ := szReplicaS_f x.Nodes r2 (by omega) (by omega) b2
  have w3 := szReplicaS_len x.Nodes r2 r3 (by omega) (by omega) b2 e3
  rw [e3, Option.bind_some, cond_dec] at e
  by_cases n3 : r3 < 0
  · rw [if_pos n3] at e; cases e; exact .inl (by omega)
  rw [if_neg n3] at e
  obtain ⟨r4, e4, l4, u4, s4⟩ := szBoolS_f x.Up r3 (by omega) (by omega) b3
  rw [e4, Option.bind_some, cond_dec] at e
  by_cases n4 : r4 < 0
  · rw [if_pos n4] at e; cases e; exact .inl (by omega)
  rw [if_neg n4] at e
  obtain ⟨r5, e5, l5, u5, s5⟩ := szMessageS_f x.Bag r4 (by omega) (by omega) b4
  have w5 := szMessageS_len x.Bag r4 r5 (by omega) (by omega) b4 e5
  rw [e5, Option.bind_some, cond_dec] at e
  by_cases n5 : r5 < 0
  · rw [if_pos n5] at e; cases e; exact .inl (by omega)
  rw [if_neg n5] at e
  obtain ⟨r6, e6, l6, u6, s6⟩ := szAnswerS_f x.Answers r5 (by omega) (by omega) b5
  rw [e6, Option.bind_some, cond_dec] at e
  by_cases n6 : r6 < 0
  · rw [if_pos n6] at e; cases e; exact .inl (by omega)
  rw [if_neg n6] at e
  cases e
  exact .inr (by omega)
def wS (x : laws_Shard) : Int := (x.Group.Nodes.length : Int) + x.Group.Bag.length
theorem szShard_w (x : laws_Shard) (k r : Int) (h0 : 0 ≤ k) (h1 : k ≤ 1048576) (hb : Bnd Y_laws_Shard x) (e : laws_szShard x k = some (r, ())) : r < 0 ∨ r + wS x ≤ k := by
  obtain ⟨_, b0, b1, _⟩ := hb
  rw [laws_szShard_eq, eta_laws_Chain] at e
  obtain ⟨r1, e1, l1, u1, s1⟩ := szChain_f x.Group k (by omega) (by omega) b1
  have w1 := szChain_w x.Group k r1 h0 h1 b1 e1
  rw [e1, Option.bind_some, cond_dec] at e
  by_cases n1 : r1 < 0
  · rw [if_pos n1] at e; cases e; exact .inl (by omega)
  · rw [if_neg n1] at e; cases e; exact .inr (by unfold wS; omega)
theorem wS_pos : ∀ l : List laws_Shard, 0 ≤ (l.map wS).sum
  | [] => Int.le_refl _
  | x :: l => by
    have := wS_pos l
    have h : 0 ≤ wS x := by unfold wS; omega
    show 0 ≤ wS x + (l.map wS).sum
    omega
theorem szShardS_w (xs : List laws_Shard) (hx : xs.length ≤ 1048576) (hB : ∀ x ∈ xs, Bnd Y_laws_Shard x) : ∀ (ys : List laws_Shard) (i k r : Int), 0 ≤ i → i ≤ xs.length → xs.drop i.toNat = ys → 0 ≤ k → k ≤ 1048576 → laws_szShardS_5 xs k i = some (r, ()) → r < 0 ∨ r + (ys.map wS).sum ≤ k
  | [], i, k, r, h0, h1, hd, h2, h3, e => by
    have := drop_nil h0 h1 hd
    rw [laws_szShardS_5_eq, cond_dec, if_neg (by omega)] at e
    cases e
    exact .inr (by simp)
  | y :: ys, i, k, r, h0, h1, hd, h2, h3, e => by
    obtain ⟨hr, hl, hd'⟩ := rd_drop (d := z_laws_Shard) h0 hd
    have hm : y ∈ xs := by rw [← hr]; exact rd_mem h0 hl
    obtain ⟨q, e1, l, u, s⟩ := szShard_f y k h2 h3 (hB y hm)
    have w := szShard_w y k q h2 h3 (hB y hm) e1
    have hp := wS_pos ys
    rw [laws_szShardS_5_eq] at e
    simp only [cond_dec, if_pos hl, if_pos h0, hr, eta_laws_Chain, eta_laws_Shard, e1, Option.bind_some, w64 (n := i + 1) (by omega) (by omega)] at e
    by_cases c : q < 0
    · rw [if_pos c] at e; cases e; exact .inl (by omega)
    · rw [if_neg c] at e
      have := szShardS_w xs hx hB ys (i + 1) q r (by omega) (by omega) hd' (by omega) (by omega) e
      have hs : ((y :: ys).map wS).sum = wS y + (ys.map wS).sum := rfl
      rw [hs]
      omega
theorem szCluster_w (x : laws_Cluster) (k r : Int) (h0 : 0 ≤ k) (h1 : k ≤ 1048576) (hb : Bnd Y_laws_Cluster x) (e : laws_szCluster x k = some (r, ())) : r < 0 ∨ (x.Shards.map wS).sum ≤ k := by
  obtain ⟨_, b0, b1, b2, b3, b4, b5, _⟩ := hb
  rw [laws_szCluster_eq] at e
  obtain ⟨r1, e1, l1, u1, s1⟩ := szShardS_f x.Shards k (by omega) (by omega) b0
  have w1 : r1 < 0 ∨ r1 + (x.Shards.map wS).sum ≤ k := by
    obtain ⟨c0, c1⟩ := b0
    have c0 : x.Shards.length ≤ 9223372036854775807 := c0
    rw [laws_szShardS_eq] at e1
    simp only [cond_dec, w64 (n := k - (x.Shards.length : Int)) (by omega) (by omega)] at e1
    by_cases c : k - (x.Shards.length : Int) < 0
    · rw [if_pos c] at e1; cases e1; exact .inl (by omega)
    · rw [if_neg c] at e1
      have := szShardS_w x.Shards (by omega) c1 x.Shards 0 (k - x.Shards.length) r1 (by omega) (by omega) rfl (by omega) (by omega) e1
      omega
  rw [e1, Option.bind_some, cond_dec] at e
  by_cases n1 : r1 < 0
  · rw [if_pos n1] at e; cases e; exact .inl (by omega)
  · exact .inr (by omega)
theorem sum_cv : ∀ xs : List laws_Shard, sum_impl_Shard (xs.map cvShard) ≤ 14680071 * xs.length + 7340037 * (xs.map wS).sum
  | [] => Int.le_refl _
  | x :: xs => by
    have ih := sum_cv xs
    have h1 : sum_impl_Shard ((x :: xs).map cvShard) = wt_impl_Shard (cvShard x) + sum_impl_Shard (xs.map cvShard) := rfl
    have h2 : ((x :: xs).map wS).sum = wS x + (xs.map wS).sum := rfl
    have h3 : (cvShard x).Group.Nodes.length = x.Group.Nodes.length := List.length_map ..
    have h4 : (cvShard x).Group.Bag.length = x.Group.Bag.length := List.length_map ..
    have h5 : wt_impl_Shard (cvShard x) ≤ 14680071 + 7340037 * wS x := by
      unfold wt_impl_Shard wS
      rw [h3, h4]; omega
    rw [h1, h2, List.length_cons]
    omega
/-- A cluster as it is drawn up is marked. -/
theorem markCluster_t (x : laws_Cluster) (hs : Sm_laws_Cluster x) (hw : (x.Shards.map wS).sum ≤ 1048576) : Tot (laws_markCluster (cvCluster x) 1) (fun r => 0 ≤ r.1) := by
  have him := Sm_cvCluster hs
  have hl := hs.1.1
  have hp := wS_pos x.Shards
  have hsum := sum_cv x.Shards
  have e : (cvCluster x).Shards = x.Shards.map cvShard := rfl
  rw [laws_markCluster_eq]
  refine (markShardS_t _ 1 him.1 (by omega) (by rw [e]; omega)).bind fun r1 h1 => ?_
  obtain ⟨h1a, h1b⟩ := h1
  rw [e] at h1b
  have l2 := him.2.1.1
  refine (markCallerS_t _ _ him.2.1 h1a (by omega)).bind fun r2 h2 => ?_
  obtain ⟨h2a, h2b⟩ := h2
  have l3 := him.2.2.1.1
  refine (markResultS_t _ _ him.2.2.1 h2a (by omega)).bind fun r3 h3 => Tot.val h3.1
end Go.Proofs.YtoiddibdlmcecaaGreat.Ev
