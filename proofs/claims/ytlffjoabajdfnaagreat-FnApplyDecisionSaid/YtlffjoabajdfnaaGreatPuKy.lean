/- Keys by their numbers ascend; partitions and routes that are drawn. No condition. -/
import Derived.Test.YtlffjoabajdfnaaGreatPuDv
import Derived.Test.YtlffjoabajdfnaaGreatPuC
set_option linter.unusedVariables false
set_option linter.unusedSimpArgs false
namespace Go.Proofs.YtlffjoabajdfnaaGreat.Ev
open Go.Proofs.YtlffjoabajdfnaaGreat.Eng
open Go.RowKit (wrap64)
/-! ### Keys by numbers -/
def kfrom (d : Int) : Int := if d ≥ 4 then 1 else if d = 3 then 27 else if d = 2 then 703 else 18279
theorem kfrom_range (d : Int) : 1 ≤ kfrom d ∧ kfrom d ≤ 18279 := by unfold kfrom; split <;> (try split) <;> (try split) <;> omega
def ltB : List Int → List Int → Bool
  | [], [] => false
  | [], _ :: _ => true
  | _ :: _, [] => false
  | a :: x, b :: y => decide (a < b) || (decide (a = b) && ltB x y)
theorem bytesLess_ltB : ∀ x y : List UInt8, Op.bytesLess x y = ltB (x.map fun b => (b.toNat : Int)) (y.map fun b => (b.toNat : Int))
  | [], [] => by simp [Op.bytesLess, ltB]
  | [], b :: y => by simp [Op.bytesLess, ltB]
  | a :: x, [] => by simp [Op.bytesLess, ltB]
  | a :: x, b :: y => by
    simp only [Op.bytesLess, ltB, List.map_cons, bytesLess_ltB x y]
    congr 1
    · rw [decide_eq_decide, UInt8.lt_iff_toNat_lt]; omega
    · congr 1
      by_cases e : a = b
      · subst e; simp
      · have : ¬ (a.toNat : Int) = (b.toNat : Int) := fun h => e (UInt8.toNat_inj.1 (by omega))
        rw [decide_eq_false this]; simpa using e
theorem sLt_ltB (a b : ByteArray) : sLt a b = ltB (bs a) (bs b) := by
  unfold sLt; rw [bytesLess_ltB, toList_data, toList_data]; rfl
def keyAtB : Nat → Int → List Int
  | 0, _ => []
  | n + 1, a => (97 + a / kfrom (4 - (n : Int))) :: (if a % kfrom (4 - (n : Int)) = 0 then [] else keyAtB n (a % kfrom (4 - (n : Int)) - 1))
theorem keyAtB_lt : ∀ (n : Nat) (a b : Int), n < 4 → 0 ≤ a → a < b → ltB (keyAtB (n + 1) a) (keyAtB (n + 1) b) = true
  | n, a, b, hn, h0, h => by
    have hk := kfrom_range (4 - (n : Int))
    generalize hw : kfrom (4 - (n : Int)) = w at hk
    have hq : a / w ≤ b / w := Int.ediv_le_ediv (by omega) (by omega)
    have ea := Int.emod_add_mul_ediv a w
    have eb := Int.emod_add_mul_ediv b w
    have ra := Int.emod_nonneg a (show w ≠ 0 by omega)
    have rb := Int.emod_nonneg b (show w ≠ 0 by omega)
    simp only [keyAtB, hw, ltB, Bool.or_eq_true, decide_eq_true_eq, Bool.and_eq_true]
    by_cases e : a / w < b / w
    · left; omega
    · right
      have e' : a / w = b / w := by omega
      refine ⟨by omega, ?_⟩
      rw [e'] at ea
      have hr : a % w < b % w := by omega
      rw [if_neg (show ¬ b % w = 0 by omega)]
      match n with
      | 0 =>
        have : w = 1 := by rw [← hw]; rfl
        have := Int.emod_lt_of_pos b (show 0 < w by omega)
        omega
      | n + 1 =>
        by_cases e0 : a % w = 0
        · rw [if_pos e0]
          show ltB [] (_ :: _) = true
          rfl
        · rw [if_neg e0]
          exact keyAtB_lt n _ _ (by omega) (by omega) (by omega)
theorem keyAtB_ok : ∀ (n : Nat) (a : Int), n < 4 → 0 ≤ a → a < 26 * kfrom (4 - (n : Int)) → letters (keyAtB (n + 1) a) = true ∧ 1 ≤ (keyAtB (n + 1) a).length ∧ (keyAtB (n + 1) a).length ≤ n + 1
  | n, a, hn, h0, h => by
    have hk := kfrom_range (4 - (n : Int))
    generalize hw : kfrom (4 - (n : Int)) = w at hk h
    have hq : a / w < 26 := Int.ediv_lt_of_lt_mul (by omega) h
    have hq0 : 0 ≤ a / w := Int.ediv_nonneg h0 (by omega)
    have ra := Int.emod_nonneg a (show w ≠ 0 by omega)
    have rl := Int.emod_lt_of_pos a (show 0 < w by omega)
    simp only [keyAtB, hw, letters, List.all_cons, List.length_cons]
    rw [decide_eq_true (by omega), Bool.true_and]
    by_cases e0 : a % w = 0
    · rw [if_pos e0]; simp
    · rw [if_neg e0]
      match n with
      | 0 =>
        have : w = 1 := by rw [← hw]; rfl
        omega
      | n + 1 =>
        have hnext : w ≤ 26 * kfrom (4 - (n : Int)) + 1 := by
          rw [← hw]
          have : n = 0 ∨ n = 1 ∨ n = 2 := by omega
          rcases this with rfl | rfl | rfl <;> simp [kfrom]
        have ih := keyAtB_ok n (a % w - 1) (by omega) (by omega) (by omega)
        exact ⟨ih.1, by omega, by omega⟩
theorem weight_f (i : Int) (h : 0 ≤ i ∧ i ≤ 3) : spec_l1Weight i = some (kfrom (i + 1), ()) := by
  rw [spec_l1Weight_eq]
  have : i = 0 ∨ i = 1 ∨ i = 2 ∨ i = 3 := by omega
  rcases this with rfl | rfl | rfl | rfl <;> rfl
theorem KeyAt5_f : ∀ (n : Nat) (a : Int) (s : ByteArray) (i : Int), n ≤ 4 → i + n = 4 → 0 ≤ a → a ≤ 1000000 → (n = 0 ∨ a < 26 * kfrom (i + 1)) → (s.size : Int) ≤ i → ∃ r, spec_KeyAt_5 a s i = some (r, ()) ∧ bs r = bs s ++ keyAtB n a
  | 0, a, s, i, hn, hi, ha, ha2, hw, hs => by rw [spec_KeyAt_5_eq, cond_dec, if_neg (by omega)]; exact ⟨_, rfl, by simp [keyAtB]⟩
  | n + 1, a, s, i, hn, hi, ha, ha2, hw, hs => by
    have hk := kfrom_range (i + 1)
    have hi2 : i + 1 = 4 - (n : Int) := by omega
    have hw : a < 26 * kfrom (i + 1) := by omega
    have hl : ∀ x : Int, (strOfInts [x]).size = 1 := fun x => by rw [sonSize]; rfl
    rw [spec_KeyAt_5_eq, cond_dec, if_pos (by omega), weight_f i (by omega)]
    simp only [Option.bind_some, cond_dec]
    rw [decide_eq_false (by omega), Bool.not_false, cond_true, if_pos (by rw [hl]; omega), Int.tmod_eq_emod_of_nonneg ha, Int.tdiv_eq_ediv_of_nonneg ha]
    simp only [keyAtB, ← hi2]
    generalize hwk : kfrom (i + 1) = w at *
    have hq : a / w < 26 := Int.ediv_lt_of_lt_mul (by omega) hw
    have hq0 : 0 ≤ a / w := Int.ediv_nonneg ha (by omega)
    have ra := Int.emod_nonneg a (show w ≠ 0 by omega)
    have rl := Int.emod_lt_of_pos a (show 0 < w by omega)
    have e8 : IntKind.u8.wrap (97 + a / w) = 97 + a / w := Int.emod_eq_of_lt (by omega) (show 97 + a / w < 256 by omega)
    rw [w64 (n := a / w) (by omega) (by omega), w64 (n := 97 + a / w) (by omega) (by omega), e8]
    by_cases e : a % w = 0
    · rw [if_pos e, if_pos e]; exact ⟨_, rfl, by rw [bs_app, bs_one (by omega) (by omega)]⟩
    · rw [if_neg e, if_neg e, w64 (n := i + 1) (by omega) (by omega), w64 (n := a % w - 1) (by omega) (by omega)]
      have hnext : n = 0 ∨ a % w - 1 < 26 * kfrom (i + 1 + 1) := by
        by_cases h0 : n = 0
        · exact .inl h0
        · right
          have : i = 0 ∨ i = 1 ∨ i = 2 := by omega
          rcases this with rfl | rfl | rfl <;> simp [kfrom] at hwk ⊢ <;> omega
      obtain ⟨r, hr, hb⟩ := KeyAt5_f n (a % w - 1) (s ++ strOfInts [97 + a / w]) (i + 1) (by omega) (by omega) (by omega) (by omega) hnext (by rw [ByteArray.size_append, hl]; omega)
      exact ⟨r, hr, by rw [hb, bs_app, bs_one (by omega) (by omega)]; simp⟩
theorem KeyAt_in (a : Int) (h0 : 0 ≤ a) (h1 : a ≤ 475253) : ∃ r, spec_KeyAt a = some (r, ()) ∧ bs r = keyAtB 4 a := by
  rw [spec_KeyAt_eq, spec_l1In_f, Option.bind_some, decide_eq_true ⟨h0, h1⟩, Bool.not_true, cond_false]
  obtain ⟨r, hr, hb⟩ := KeyAt5_f 4 a es 0 (by omega) (by omega) h0 (by omega) (.inr (by simp [kfrom]; omega)) (by decide)
  exact ⟨r, hr, by rw [hb]; rfl⟩
theorem keyB_ok {r : ByteArray} {a : Int} (hb : bs r = keyAtB 4 a) (h0 : 0 ≤ a) (h1 : a ≤ 475253) : keyOk r = true := by
  have h := keyAtB_ok 3 a (by omega) h0 (by simp [kfrom]; omega)
  have e : r.size = (bs r).length := (bs_length r).symm
  have h1 : letters (keyAtB 4 a) = true := h.1
  have h2 : 1 ≤ (keyAtB 4 a).length ∧ (keyAtB 4 a).length ≤ 4 := h.2
  unfold keyOk
  rw [hb, h1, decide_eq_true (p := 1 ≤ r.size ∧ r.size ≤ 4) (by rw [e, hb]; exact h2)]; rfl
theorem keyB_lt {r q : ByteArray} {a b : Int} (ha : bs r = keyAtB 4 a) (hb : bs q = keyAtB 4 b) (h0 : 0 ≤ a) (h : a < b) : sLt r q = true := by
  rw [sLt_ltB, ha, hb]; exact keyAtB_lt 3 a b (by omega) h0 h
/-! ### Partitions -/
def mkParts (lo : ByteArray) : List ByteArray → List impl_Interval
  | [] => [⟨lo, es⟩]
  | b :: r => ⟨lo, b⟩ :: mkParts b r
theorem mkParts_length : ∀ (ys : List ByteArray) (lo : ByteArray), (mkParts lo ys).length = ys.length + 1
  | [], lo => rfl
  | y :: ys, lo => by simp [mkParts, mkParts_length ys y]
theorem PartitionOf_l (xs : List ByteArray) (hx : xs.length ≤ 5) : ∀ (ys : List ByteArray) (pre : List impl_Interval) (lo : ByteArray) (i : Int), 0 ≤ i → i ≤ xs.length → (pre.length : Int) = i → xs.drop i.toNat = ys →
    spec_PartitionOf_3 xs i (pre ++ [⟨lo, es⟩]) = some ((bif partOk (pre ++ mkParts lo ys) then (pre ++ mkParts lo ys, true, ()) else ([], false, ())), ())
  | [], pre, lo, i, h0, h1, hp, hd => by
    have := drop_nil h0 h1 hd
    rw [spec_PartitionOf_3_eq, cond_dec, if_neg (by omega), spec_PartitionValid_f, Option.bind_some]
    simp only [mkParts]
    cases partOk (pre ++ [(⟨lo, es⟩ : impl_Interval)]) <;> rfl
  | y :: ys, pre, lo, i, h0, h1, hp, hd => by
    obtain ⟨hr, hl, hd'⟩ := rd_drop (d := es) h0 hd
    have hlen : ((pre ++ [(⟨lo, es⟩ : impl_Interval)]).length : Int) = i + 1 := by simp; omega
    have hrd : rdAt (pre ++ [(⟨lo, es⟩ : impl_Interval)]) i.toNat z_impl_Interval = ⟨lo, es⟩ := by
      unfold rdAt
      rw [List.getD_eq_getElem?_getD, List.getElem?_append_right (by omega), show i.toNat - pre.length = 0 by omega]; rfl
    have hset : (pre ++ [(⟨lo, es⟩ : impl_Interval)]).set i.toNat ⟨lo, y⟩ = pre ++ [⟨lo, y⟩] := by
      rw [List.set_append_right _ _ (by omega), show i.toNat - pre.length = 0 by omega]; rfl
    rw [spec_PartitionOf_3_eq]
    simp only [cond_dec, if_pos hl, hlen, if_pos h0, show i + 1 - 1 = i by omega, w64 (n := i) (by omega) (by omega), w64 (n := i + 1) (by omega) (by omega)]
    rw [if_pos (by omega), if_pos (by omega), hr, hrd, hset, ble_row (by simp; omega) (by omega), cond_true]
    have := PartitionOf_l xs hx ys (pre ++ [⟨lo, y⟩]) y (i + 1) (by omega) (by omega) (by simp; omega) hd'
    rw [this]
    simp [mkParts]
theorem PartitionOf_f (xs : List ByteArray) (hx : xs.length ≤ 5) : spec_PartitionOf xs = some ((bif partOk (mkParts es xs) then (mkParts es xs, true, ()) else ([], false, ())), ()) := by
  rw [spec_PartitionOf_eq]
  exact PartitionOf_l xs hx xs [] es 0 (by omega) (by omega) (by simp) (by simp)
def ascN : Int → List ByteArray → Prop
  | _, [] => True
  | p, y :: ys => ∃ a, p < a ∧ a ≤ 475253 ∧ bs y = keyAtB 4 a ∧ ascN a ys
theorem mkParts_chain : ∀ (ys : List ByteArray) (p : impl_Interval) (lo : ByteArray) (a : Int), 0 ≤ a → a ≤ 475253 → bs lo = keyAtB 4 a → ascN a ys → ivOk p = true → p.High = lo → chainFrom p (mkParts lo ys) = true
  | [], p, lo, a, h0, h1, hb, ha, hi, he => by
    have hk := keyB_ok hb h0 h1
    simp only [mkParts, chainFrom, joinOk, Bool.and_true]
    rw [hi, ivOk_low hk, he, decide_eq_false (keyOk_ne hk)]; simp
  | y :: ys, p, lo, a, h0, h1, hb, ⟨c, c1, c2, c3, c4⟩, hi, he => by
    have hk := keyB_ok hb h0 h1
    have hy := ivOk_both hk (keyB_ok c3 (by omega) c2) (keyB_lt hb c3 h0 c1)
    simp only [mkParts, chainFrom, joinOk]
    rw [hi, hy, he, decide_eq_false (keyOk_ne hk), mkParts_chain ys ⟨lo, y⟩ y c (by omega) c2 c3 c4 hy rfl]; simp
theorem mkParts_last : ∀ (ys : List ByteArray) (lo : ByteArray), (rdAt (mkParts lo ys) ys.length z_impl_Interval).High = es
  | [], lo => rfl
  | y :: ys, lo => mkParts_last ys y
theorem mkParts_ok (ys : List ByteArray) (hl : ys.length ≤ 5) (ha : ascN 0 ys) : partOk (mkParts es ys) = true := by
  have hlast := mkParts_last ys es
  have hlen := mkParts_length ys es
  cases ys with
  | nil => rfl
  | cons y ys =>
    obtain ⟨c, c1, c2, c3, c4⟩ := ha
    have hk := keyB_ok c3 (by omega) c2
    have hi : ivOk ⟨es, y⟩ = true := by
      refine ivOk_high hk fun e => ?_
      have e0 : bs (lit [97]) = keyAtB 4 0 := by rfl
      have := keyB_lt e0 c3 (by omega) c1
      rw [e, sLt_irrefl] at this; cases this
    have hm : (mkParts y ys).length = ys.length + 1 := mkParts_length ys y
    simp only [List.length_cons] at hl hlast
    unfold partOk
    simp only [mkParts, List.length_cons, hm, Bool.and_eq_true, decide_eq_true_eq]
    refine ⟨⟨⟨⟨by omega, hi⟩, trivial⟩, ?_⟩, mkParts_chain ys _ y c (by omega) c2 c3 c4 hi rfl⟩
    exact hlast
theorem bounds4_t {n : Int} (hn : n ≤ 100000000) : ∀ (m : Nat) (out : List ByteArray) (a c : Int) (r : spec_l20Rd), m ≤ 5 → out.length + m ≤ 5 → Rdr (n - 2 * m) r → 0 ≤ c → c < a → a + 65026 * m ≤ 475000 → Tot (spec_l20Bounds_4 0 a (m : Int) r out) (fun x => (∃ ys, x.1 = out ++ ys ∧ ys.length = m ∧ ascN c ys) ∧ Rdr n x.2.1)
  | 0, out, a, c, r, hm, ho, hr, hc, ha, ha2 => by
    rw [spec_l20Bounds_4_eq, cond_dec, if_neg (by omega), odd0, Option.bind_some]
    exact Tot.val ⟨⟨[], by simp, rfl, trivial⟩, hr.up (by omega)⟩
  | m + 1, out, a, c, r, hm, ho, hr, hc, ha, ha2 => by
    obtain ⟨k, hk, hb⟩ := KeyAt_in a (by omega) (by omega)
    rw [spec_l20Bounds_4_eq, cond_dec, if_pos (by omega), hk, Option.bind_some, ble_row (by simp; omega) (by omega), cond_true]
    refine (pick_t hr (by omega) (by omega)).bind fun v hv => (pick_t hv.2 (by omega) (by omega)).bind fun u hu => ?_
    have v0 := hv.1.1
    have v1 := hv.1.2 (by omega)
    have u0 := hu.1.1
    have u1 := hu.1.2 (by omega)
    have m0 : 0 ≤ v.1 * u.1 := Int.mul_nonneg v0 u0
    have m1 : v.1 * u.1 ≤ 255 * 255 := Int.mul_le_mul (by omega) (by omega) u0 (by omega)
    rw [w64 (n := a + 1) (by omega) (by omega), w64 (n := v.1 * u.1) (by omega) (by omega), w64 (n := a + 1 + v.1 * u.1) (by omega) (by omega), w64 (n := ((m + 1 : Nat) : Int) - 1) (by omega) (by omega), show ((m + 1 : Nat) : Int) - 1 = (m : Int) by omega]
    refine (bounds4_t hn m (out ++ [k]) (a + 1 + v.1 * u.1) a _ (by omega) (by simp; omega) (hu.2.up (by omega)) (by omega) (by omega) (by omega)).mono fun x hx => ?_
    obtain ⟨⟨ys, e, hl, hasc⟩, hr⟩ := hx
    exact ⟨⟨k :: ys, by rw [e]; simp, by simp [hl], a, ha, by omega, hb, hasc⟩, hr⟩
theorem parts_t {n : Int} {r : spec_l20Rd} (h : Rdr n r) (hn : n ≤ 90000000) : Tot (spec_l20Parts r 0) (fun x => (1 ≤ x.1.length ∧ x.1.length ≤ 6) ∧ Rdr (n + 20) x.2.1) := by
  rw [spec_l20Parts_eq, spec_l20Bounds_eq]
  refine Tot.bind (Q := fun x => (x.1.length ≤ 5 ∧ ascN 0 x.1) ∧ Rdr (n + 20) x.2.1) ((pick_t h (by omega) (by omega)).bind fun v hv => (pick_t hv.2 (by omega) (by omega)).bind fun u hu => ?_) fun x hx => ?_
  · have v0 := hv.1.1
    have v1 := hv.1.2 (by omega)
    have u0 := hu.1.1
    have u1 := hu.1.2 (by omega)
    rw [w64 (n := 1 + v.1) (by omega) (by omega), show u.1 = (u.1.toNat : Int) by omega]
    refine (bounds4_t (n := n + 20) (by omega) u.1.toNat [] (1 + v.1) 0 _ (by omega) (by simp; omega) (hu.2.up (by omega)) (by omega) (by omega) (by omega)).mono fun x hx => ?_
    obtain ⟨⟨ys, e, hl, hasc⟩, hr⟩ := hx
    rw [List.nil_append] at e
    exact ⟨⟨by rw [e]; omega, by rw [e]; exact hasc⟩, hr⟩
  · have hlen := mkParts_length x.1 es
    have hl5 := hx.1.1
    rw [PartitionOf_f x.1 hx.1.1, mkParts_ok x.1 hx.1.1 hx.1.2, Option.bind_some, odd0, Option.bind_some]
    exact Tot.val ⟨by simp only [cond_true]; omega, hx.2⟩
theorem tmod8 {a : Int} (h : 0 ≤ a) : 0 ≤ Int.tmod a 8 ∧ Int.tmod a 8 ≤ 7 := by rw [Int.tmod_eq_emod_of_nonneg h]; omega
theorem routes_t {n m : Int} {r : spec_l20Rd} (h : Rdr n r) (hn : n ≤ 80000000) (hm : m ≤ 1000000) : Tot (spec_l20Routes r m) (fun x => x.1.length ≤ 100 ∧ Rdr (n + 40) x.2.1) := by
  rw [spec_l20Routes_eq]
  refine (parts_t h (by omega)).bind fun p hp => (pick_t hp.2 (by omega) (by omega)).bind fun a ha => (pick_t ha.2 (by omega) (by omega)).bind fun b hb => ?_
  have b0 := hb.1.1
  have b1 := hb.1.2 (by omega)
  simp only [cond_dec, List.length_cons, List.length_nil]
  rw [if_pos b0, if_pos (by omega)]
  have hstep : 0 ≤ rdAt [(1 : Int), 3, 5, 7] b.1.toNat 0 ∧ rdAt [(1 : Int), 3, 5, 7] b.1.toNat 0 ≤ 7 := by
    refine rd_all (P := fun x => 0 ≤ x ∧ x ≤ 7) b0 (by simp; omega) fun x hx => ?_
    simp only [List.mem_cons, List.not_mem_nil, or_false] at hx
    omega
  generalize rdAt [(1 : Int), 3, 5, 7] b.1.toNat 0 = st at hstep
  have hpl := hp.1
  have go : ∀ (j : Nat) (i k : Int) (out : List impl_Route), i + j = p.1.length → 0 ≤ i → out.length = i.toNat → 0 ≤ k ∧ k ≤ 7 → Tot (spec_l20Routes_6 m k st i b.2.1 out p.1) (fun x => x.1.length ≤ 100 ∧ Rdr (n + 40) x.2.1) := by
    intro j
    induction j with
    | zero =>
      intro i k out hj h0 ho hk
      have hc := cutList_len out 1 out.length
      rw [spec_l20Routes_6_eq]
      simp only [cond_dec, List.length_cons, List.length_nil]
      rw [if_neg (by omega)]
      refine (odd_t hb.2 (by omega) hm).bind fun x hx => Tot.bif (fun _ => ?_) fun _ => Tot.val ⟨by show out.length ≤ 100; omega, hx.up (by omega)⟩
      refine (pick_t hx (by omega) (by omega)).bind fun y hy => Tot.ite (fun _ => ?_) fun _ => Tot.ite (fun _ => ?_) fun _ => Tot.ite (fun _ => ?_) fun _ => ?_
      · rw [if_pos (by omega)]; exact Tot.val ⟨by dsimp only; omega, hy.2.up (by omega)⟩
      · refine (pick_t hy.2 (by omega) (by omega)).bind fun z hz => ?_
        have z1 := hz.1.2 (by omega)
        rw [if_pos hz.1.1, if_pos (by omega), if_pos (by omega)]
        exact Tot.val ⟨by simp; omega, hz.2.up (by omega)⟩
      · rw [w64 (n := (out.length : Int) - 1) (by omega) (by omega), if_pos (by omega), if_pos (by omega), if_pos (by omega)]
        exact Tot.val ⟨by simp; omega, hy.2.up (by omega)⟩
      · rw [w64 (n := (out.length : Int) - 1) (by omega) (by omega), if_pos (by omega), if_pos (by omega)]
        exact Tot.val ⟨by simp; omega, hy.2.up (by omega)⟩
    | succ j ih =>
      intro i k out hj h0 ho hk
      have hi : i < (p.1.length : Int) := by omega
      rw [spec_l20Routes_6_eq]
      simp only [cond_dec, if_pos hi, if_pos h0]
      rw [ble_row (by simp; omega) (by omega), cond_true, w64 (n := i + 1) (by omega) (by omega), w64 (n := k + st) (by omega) (by omega)]
      exact ih (i + 1) _ _ (by omega) (by omega) (by simp; omega) (tmod8 (by omega))
  exact go p.1.length 0 a.1 [] (by omega) (by omega) rfl ⟨ha.1.1, by have := ha.1.2 (by omega); omega⟩
end Go.Proofs.YtlffjoabajdfnaaGreat.Ev
