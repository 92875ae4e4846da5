/- The laws' own functions: sizes, turns into the program's types, comparisons, marks. No condition. -/
import Derived.Test.YtkelnaphjekenaaPuF
set_option linter.unusedVariables false
set_option linter.unusedSimpArgs false
namespace Go.Proofs.Ytkelnaphjekenaa.Ev
open Go.Proofs.Ytkelnaphjekenaa.Eng
open Go.RowKit (wrap64)

/-! ### Marks' texts -/
theorem son_size (xs : List Int) : (strOfInts xs).size = xs.length := by simp [strOfInts, ByteArray.size]
theorem markText_l : ∀ (n : Nat) (k : Int) (s : ByteArray), 0 ≤ k → k < 10 ^ n → k ≤ 9223372036854775807 → s.size + n ≤ 1000 → ∃ r, laws_markText_4 k s = some r
  | 0, k, s, h0, h1, h2, hs => by
    have h1 : k < 1 := by simpa using h1
    have hl : (lit [109]).size = 1 := rfl
    rw [laws_markText_4_eq]
    simp only [cond_dec]
    rw [if_neg (show ¬ 0 < k by omega), if_pos (by omega)]; exact ⟨_, rfl⟩
  | n + 1, k, s, h0, h1, h2, hs => by
    have hl : (lit [109]).size = 1 := rfl
    rw [laws_markText_4_eq]
    simp only [cond_dec]
    by_cases e : 0 < k
    · have hd : Int.tdiv k 10 = k / 10 := Int.tdiv_eq_ediv_of_nonneg h0
      have hp : (10 : Int) ^ (n + 1) = 10 ^ n * 10 := Int.pow_succ 10 n
      have h3 : k / 10 < 10 ^ n := by omega
      rw [if_pos e, if_pos (by rw [son_size]; simp; omega), hd, w64 (n := k / 10) (by omega) (by omega)]
      exact markText_l n (k / 10) _ (by omega) h3 (by omega) (by rw [ByteArray.size_append, son_size]; simp; omega)
    · rw [if_neg e, if_pos (by omega)]; exact ⟨_, rfl⟩
theorem markText_ok (k : Int) (h0 : 0 ≤ k) (h1 : k ≤ 9223372036854775807) : ∃ r, laws_markText k = some r := by
  rw [laws_markText_eq, cond_dec]
  by_cases e : k ≤ 0
  · rw [if_pos e]; exact ⟨_, rfl⟩
  · rw [if_neg e]; exact markText_l 30 k _ h0 (by omega) h1 (show 0 + 30 ≤ 1000 by omega)
/-- The text of a mark. -/
noncomputable def mt (k : Int) : ByteArray := ((laws_markText k).getD (es, ())).1
theorem mt_eq (k : Int) (h0 : 0 ≤ k) (h1 : k ≤ 9223372036854775807) : laws_markText k = some (mt k, ()) := by
  obtain ⟨r, hr⟩ := markText_ok k h0 h1
  unfold mt
  rw [hr]; rfl

/-! ### Routes -/
theorem eqInterval_refl (a : impl_Interval) : laws_eqInterval a a = some (true, ()) := by rw [laws_eqInterval_eq]; simp [sEq_dec]
theorem eqRoute_refl (a : impl_Route) : laws_eqRoute a a = some (true, ()) := by rw [laws_eqRoute_eq]; simp [eqInterval_refl]
theorem eqRouteS_refl (xs : List impl_Route) (hx : xs.length ≤ 1000000000000) : laws_eqRouteS xs xs = some (true, ()) := by
  rw [laws_eqRouteS_eq, decide_eq_true rfl]
  refine refl_loop0 (true, ()) xs.length (fun i => laws_eqRouteS_4 xs xs i) (fun i h0 h1 => ?_)
  rw [laws_eqRouteS_4_eq]
  simp only [cond_dec, eqRoute_refl, Option.bind_some, Bool.not_true, cond_false, if_pos h0]
  by_cases h : i < (xs.length : Int)
  · simp only [if_pos h, w64 (n := i + 1) (by omega) (by omega)]
  · simp only [if_neg h]
theorem eqPlan_refl (p : impl_Plan) : laws_eqPlan p p = some (true, ()) := by rw [laws_eqPlan_eq]; simp [sEq_dec]
theorem eqMaster_refl (m : impl_Master) (hx : m.Routes.length ≤ 1000000000000) : laws_eqMaster m m = some (true, ()) := by
  rw [laws_eqMaster_eq, eqRouteS_refl _ hx]; simp [eqPlan_refl]
/-- A marked route. -/
noncomputable def elRoute (k : Int) : impl_Route := ⟨k, ⟨mt (k + 1), mt (k + 1 + 1)⟩⟩
theorem markRouteS_f (xs : List impl_Route) (k : Int) (hx : xs.length ≤ 1000000000) (hk : 0 ≤ k) (hk2 : k ≤ 100000000000) : laws_markRouteS xs k = some (k + 3 * xs.length, (marks elRoute 3 xs.length k, ())) := by
  rw [laws_markRouteS_eq]
  refine mark_loop0 elRoute 3 (by omega) (by omega) xs hx k hk hk2 (fun k l => (k, (l, ()))) (fun zs k i => laws_markRouteS_2 k i zs) (fun zs k i h0 h1 hl hk hk2 => ?_)
  rw [laws_markRouteS_2_eq]
  by_cases h : i < (xs.length : Int)
  · have hz : i < (zs.length : Int) := by omega
    have hn : i.toNat < zs.length := by omega
    simp only [cond_dec, if_pos hz, if_pos h0, List.length_set, w64 (n := k + 1) (by omega) (by omega), w64 (n := k + 1 + 1) (by omega) (by omega), w64 (n := k + 1 + 1 + 1) (by omega) (by omega), w64 (n := i + 1) (by omega) (by omega), mt_eq (k + 1) (by omega) (by omega), mt_eq (k + 1 + 1) (by omega) (by omega), Option.bind_some,
      rd_set _ _ _ hn, List.set_set, if_pos h]
    rw [show k + 1 + 1 + 1 = k + 3 by omega]
    rfl
  · simp only [cond_dec, if_neg (show ¬ i < (zs.length : Int) by omega), if_neg h]
theorem heldRouteS_f (n : Nat) (k : Int) (hn : n ≤ 1000000000) (hk : 0 ≤ k) (hk2 : k ≤ 100000000000) : laws_heldRouteS (marks elRoute 3 n k) k = some (k + 3 * n, ()) := by
  have hm := marks_length elRoute 3 n k
  rw [laws_heldRouteS_eq]
  refine held_loop0 elRoute z_impl_Route 3 (by omega) (by omega) n hn k hk hk2 (fun k => (k, ())) (fun k' i => laws_heldRouteS_2 (marks elRoute 3 n k) k' i) (fun k' i h0 h1 hk hk2 he => ?_)
  rw [laws_heldRouteS_2_eq, hm]
  by_cases h : i < (n : Int)
  · simp only [cond_dec, if_pos h, if_pos h0, he h, w64 (n := k' + 1) (by omega) (by omega), w64 (n := k' + 1 + 1) (by omega) (by omega), w64 (n := k' + 1 + 1 + 1) (by omega) (by omega), w64 (n := i + 1) (by omega) (by omega), mt_eq (k' + 1) (by omega) (by omega), mt_eq (k' + 1 + 1) (by omega) (by omega), Option.bind_some, elRoute, sEq_dec, decide_true, Bool.not_true, cond_false]
    rw [show k' + 1 + 1 + 1 = k' + 3 by omega]
  · simp only [cond_dec, if_neg h]
def cvRoute (x : laws_Route) : impl_Route := ⟨x.Number, ⟨x.Span.Low, x.Span.High⟩⟩
theorem toRouteS_f (xs : List laws_Route) (hx : xs.length ≤ 1048576) : laws_toRouteS xs = some (xs.map cvRoute, ()) := by
  rw [laws_toRouteS_eq]
  simp only [cond_dec, if_pos (show (0 : Int) ≤ (xs.length : Int) by omega), if_pos (show (xs.length : Int) ≤ (xs.length : Int) by omega), if_pos (show (40 : Int) * (xs.length : Int) ≤ 281474976710656 by omega), Int.toNat_natCast]
  refine copy_loop0 (xs.map cvRoute) _ z_impl_Route xs.length (by simp) (by simp) (fun l => (l, ())) (fun zs i => laws_toRouteS_3 xs i zs) (fun zs i h0 h1 hl => ?_)
  rw [laws_toRouteS_3_eq]
  by_cases h : i < (xs.length : Int)
  · simp only [cond_dec, if_pos h, if_pos h0, laws_toRoute_eq, laws_toInterval_eq, Option.bind_some, if_pos (show i < (zs.length : Int) by omega), w64 (n := i + 1) (by omega) (by omega), rd_map cvRoute xs i.toNat z_laws_Route _ (by omega)]
    rfl
  · simp only [cond_dec, if_neg h]
/-! ### Sizes -/
def small (b : ByteArray) : Prop := b.size ≤ 9223372036854775807
theorem szRoute_f (x : laws_Route) (k : Int) (hs : small x.Span.Low) (hs2 : small x.Span.High) (h0 : 0 ≤ k) (h1 : k ≤ 1048576) : ∃ r, laws_szRoute x k = some (r, ()) ∧ -1 ≤ r ∧ r ≤ k := by
  unfold small at hs hs2
  rw [laws_szRoute_eq, laws_szInterval_eq]
  simp only [cond_dec, w64 (n := k - (x.Span.Low.size : Int)) (by omega) (by omega)]
  by_cases h : k - (x.Span.Low.size : Int) < 0
  · rw [if_pos h, Option.bind_some, if_pos (by omega)]; exact ⟨_, rfl, by omega, by omega⟩
  · rw [if_neg h, w64 (n := k - (x.Span.Low.size : Int) - (x.Span.High.size : Int)) (by omega) (by omega)]
    by_cases h2 : k - (x.Span.Low.size : Int) - (x.Span.High.size : Int) < 0
    · rw [if_pos h2, Option.bind_some, if_pos (by omega)]; exact ⟨_, rfl, by omega, by omega⟩
    · rw [if_neg h2, Option.bind_some, if_neg (by omega)]; exact ⟨_, rfl, by omega, by omega⟩
theorem szRouteS_l (xs : List laws_Route) (hx : xs.length ≤ 1048576) (hB : ∀ x ∈ xs, small x.Span.Low ∧ small x.Span.High) : ∀ (n : Nat) (i k : Int), i + n = xs.length → 0 ≤ i → 0 ≤ k → k ≤ 1048576 → ∃ r, laws_szRouteS_5 xs k i = some (r, ()) ∧ -1 ≤ r ∧ r ≤ k
  | 0, i, k, hi, h0, h1, h2 => by rw [laws_szRouteS_5_eq, cond_dec, if_neg (by omega)]; exact ⟨_, rfl, by omega, by omega⟩
  | n + 1, i, k, hi, h0, h1, h2 => by
    have hm : rdAt xs i.toNat z_laws_Route ∈ xs := rd_mem h0 (by omega)
    obtain ⟨r, hr, r0, r1⟩ := szRoute_f (rdAt xs i.toNat z_laws_Route) k (hB _ hm).1 (hB _ hm).2 h1 h2
    rw [laws_szRouteS_5_eq]
    simp only [cond_dec, if_pos (show i < (xs.length : Int) by omega), if_pos h0, hr, Option.bind_some, w64 (n := i + 1) (by omega) (by omega)]
    by_cases h : r < 0
    · rw [if_pos h]; exact ⟨_, rfl, by omega, by omega⟩
    · rw [if_neg h]
      obtain ⟨q, hq, hq1, hq2⟩ := szRouteS_l xs hx hB n (i + 1) r (by omega) (by omega) (by omega) (by omega)
      exact ⟨q, hq, by omega, by omega⟩
theorem szRouteS_f (xs : List laws_Route) (k : Int) (h0 : 0 ≤ k) (h1 : k ≤ 1048576) (hl : xs.length ≤ 9223372036854775807) (hB : ∀ x ∈ xs, small x.Span.Low ∧ small x.Span.High) : ∃ r, laws_szRouteS xs k = some (r, ()) ∧ -1 ≤ r ∧ r ≤ k ∧ (r < 0 ∨ xs.length ≤ 1048576) := by
  rw [laws_szRouteS_eq]
  simp only [cond_dec, w64 (n := k - (xs.length : Int)) (by omega) (by omega)]
  by_cases h : k - (xs.length : Int) < 0
  · rw [if_pos h]; exact ⟨_, rfl, by omega, by omega, .inl (by omega)⟩
  · rw [if_neg h]
    obtain ⟨r, hr, r0, r1⟩ := szRouteS_l xs (by omega) hB xs.length 0 (k - xs.length) (by omega) (by omega) (by omega) (by omega)
    exact ⟨r, hr, by omega, by omega, .inr (by omega)⟩
theorem szPlan_f (p : laws_Plan) (k : Int) (hs : small p.Key) (h0 : 0 ≤ k) (h1 : k ≤ 1048576) : ∃ r, laws_szPlan p k = some (r, ()) ∧ -1 ≤ r ∧ r ≤ k := by
  unfold small at hs
  rw [laws_szPlan_eq]
  simp only [cond_dec, w64 (n := k - (p.Key.size : Int)) (by omega) (by omega)]
  by_cases h : k - (p.Key.size : Int) < 0
  · rw [if_pos h]; exact ⟨_, rfl, by omega, by omega⟩
  · rw [if_neg h]; exact ⟨_, rfl, by omega, by omega⟩
structure MasterIn (m : laws_Master) : Prop where
  len : m.Routes.length ≤ 9223372036854775807
  spans : ∀ x ∈ m.Routes, small x.Span.Low ∧ small x.Span.High
  key : small m.Work.Key
theorem szMaster_f (m : laws_Master) (k : Int) (h0 : 0 ≤ k) (h1 : k ≤ 1048576) (hm : MasterIn m) : ∃ r, laws_szMaster m k = some (r, ()) ∧ -1 ≤ r ∧ r ≤ k ∧ (r < 0 ∨ m.Routes.length ≤ 1048576) := by
  obtain ⟨r, hr, r0, r1, hs⟩ := szRouteS_f m.Routes k h0 h1 hm.len hm.spans
  rw [laws_szMaster_eq, hr, Option.bind_some]
  simp only [cond_dec]
  by_cases h : r < 0
  · rw [if_pos h]; exact ⟨_, rfl, by omega, by omega, .inl (by omega)⟩
  · have hs : m.Routes.length ≤ 1048576 := by omega
    obtain ⟨q, hq, q0, q1⟩ := szPlan_f m.Work r hm.key (by omega) (by omega)
    rw [if_neg h, hq, Option.bind_some]
    by_cases h2 : q < 0
    · rw [if_pos h2]; exact ⟨_, rfl, by omega, by omega, .inl (by omega)⟩
    · rw [if_neg h2]; exact ⟨_, rfl, by omega, by omega, .inr hs⟩
theorem szDecision_f (d : laws_Decision) (k : Int) (h0 : 0 ≤ k) (h1 : k ≤ 1048576) (hs : small d.Begun.Key) : ∃ r, laws_szDecision d k = some (r, ()) ∧ -1 ≤ r ∧ r ≤ k := by
  obtain ⟨q, hq, q0, q1⟩ := szPlan_f d.Begun k hs h0 h1
  rw [laws_szDecision_eq, hq, Option.bind_some]
  simp only [cond_dec]
  by_cases h2 : q < 0
  · rw [if_pos h2]; exact ⟨_, rfl, by omega, by omega⟩
  · rw [if_neg h2]; exact ⟨_, rfl, by omega, by omega⟩
def cvPlan (p : laws_Plan) : impl_Plan := ⟨p.Kind, p.First, p.Second, p.Key, p.From, p.To, p.Step⟩
def cvMaster (m : laws_Master) : impl_Master := ⟨m.Routes.map cvRoute, m.Shards, cvPlan m.Work, m.Turn⟩
def cvDecision (d : laws_Decision) : impl_Decision := ⟨d.Kind, cvPlan d.Begun⟩
theorem toMaster_f (m : laws_Master) (h : m.Routes.length ≤ 1048576) : laws_toMaster m = some (cvMaster m, ()) := by
  rw [laws_toMaster_eq, toRouteS_f _ h, Option.bind_some, laws_toPlan_eq]; rfl
theorem toDecision_f (d : laws_Decision) : laws_toDecision d = some (cvDecision d, ()) := by
  rw [laws_toDecision_eq, laws_toPlan_eq]; rfl
theorem markMaster_f (m : impl_Master) (k : Int) (hx : m.Routes.length ≤ 1000000000) (hk : 0 ≤ k) (hk2 : k ≤ 100000000000) :
    laws_markMaster m k = some (k + 3 * m.Routes.length, (impl_Master.mk (marks elRoute 3 m.Routes.length k) m.Shards m.Work m.Turn, ())) := by
  rw [laws_markMaster_eq, markRouteS_f _ _ hx hk hk2]; rfl
theorem heldMaster_f (n : Nat) (a : Int) (b : impl_Plan) (c : Int) (k : Int) (hn : n ≤ 1000000000) (hk : 0 ≤ k) (hk2 : k ≤ 100000000000) : laws_heldMaster (impl_Master.mk (marks elRoute 3 n k) a b c) k = some (k + 3 * n, ()) := by
  rw [laws_heldMaster_eq, heldRouteS_f n k hn hk hk2, Option.bind_some, cond_dec, if_neg (by dsimp only; omega)]
theorem beqB_self (b : Bool) : beqB b b = true := by cases b <;> rfl
theorem applyR_len (m : impl_Master) (d : impl_Decision) (h : m.Routes.length ≤ 2000000) : (applyR m d).1.Routes.length ≤ 1000000000 := by
  have hf : ∀ (x : Bool) (a b : impl_Master), a.Routes.length ≤ 1000000000 → b.Routes.length ≤ 1000000000 ∨ masterOk b = true → (fin x a b).1.Routes.length ≤ 1000000000 := fun x a b h1 h2 => by
    unfold fin
    split
    · rename_i h3
      rcases h2 with h2 | h2
      · exact h2
      · have := (masterOk_len h2).1; show b.Routes.length ≤ _; omega
    · exact h1
  have hf' : ∀ (x : Bool) (b : impl_Master), (fin x m b).1.Routes.length ≤ 1000000000 := fun x b => by
    by_cases hb : masterOk b = true
    · exact hf x m b (by omega) (.inr hb)
    · unfold fin
      rw [if_neg (fun h => hb h.2)]
      show m.Routes.length ≤ _; omega
  unfold applyR
  split
  · simp
  · split
    · exact hf' _ _
    · split
      · exact hf' _ _
      · split
        · exact hf' _ _
        · split
          · exact hf' _ _
          · split
            · exact hf' _ _
            · show m.Routes.length ≤ _; omega
end Go.Proofs.Ytkelnaphjekenaa.Ev
