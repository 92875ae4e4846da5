/- What is drawn from a code: the draws return, and what they return is short. No condition. -/
import Derived.Test.YtlffjoabajdfnaaGreatPuRe
import Derived.Test.YtlffjoabajdfnaaGreatPuTo
set_option linter.unusedVariables false
set_option linter.unusedSimpArgs false
namespace Go.Proofs.YtlffjoabajdfnaaGreat.Ev
open Go.Proofs.YtlffjoabajdfnaaGreat.Eng
open Go.RowKit (wrap64)
/-! ### The reader -/
def Code (b : List Int) : Prop := b.length ≤ 2000 ∧ ∀ x ∈ b, 0 ≤ x ∧ x ≤ 255
structure Rdr (n : Int) (r : spec_l20Rd) : Prop where
  code : Code r.b
  p0 : 0 ≤ r.p
  p1 : r.p ≤ n
theorem Rdr.up {n m : Int} {r : spec_l20Rd} (h : Rdr n r) (hm : n ≤ m) : Rdr m r := ⟨h.code, h.p0, Int.le_trans h.p1 hm⟩
theorem wf8 {n : Int} (h : (Lit.int .u8 n).wf = true) : 0 ≤ n ∧ n ≤ 255 := by
  simp only [Lit.wf, IntKind.min, IntKind.max, IntKind.signed, IntKind.bits, Bool.and_eq_true, decide_eq_true_eq] at h
  simp at h
  omega
theorem spec_l20Open_t {l : List Int} (h : ∀ x ∈ l, 0 ≤ x ∧ x ≤ 255) : Tot (spec_l20Open l) (fun x => Rdr 0 x.1) := by
  rw [spec_l20Open_eq]
  simp only [cond_dec]
  refine Tot.ite (fun h1 => Tot.chk (by omega) (Tot.val ⟨⟨?_, fun x hx => h x ?_⟩, Int.le_refl _, Int.le_refl _⟩)) fun h1 => Tot.val ⟨⟨by show l.length ≤ 2000; omega, h⟩, Int.le_refl _, Int.le_refl _⟩
  · show (cutList l 0 2000).length ≤ 2000
    simp [cutList]; omega
  · have hx : x ∈ cutList l 0 2000 := hx
    simp only [cutList] at hx
    exact List.mem_of_mem_take (List.mem_of_mem_drop hx)
theorem Code.get {b : List Int} (h : Code b) (i : Int) (hi : i.toNat < b.length) : 0 ≤ rdAt b i.toNat 0 ∧ rdAt b i.toNat 0 ≤ 255 := by
  rw [rd_eq' hi]
  exact h.2 _ (List.getElem_mem hi)
theorem xor_range (a b : Int) (h0 : 0 ≤ a) (h1 : a ≤ 4611686018427387903) (h2 : 0 ≤ b) (h3 : b ≤ 4611686018427387903) : 0 ≤ Go.bits .xor .i64 a b ∧ Go.bits .xor .i64 a b ≤ 4611686018427387903 := by
  obtain ⟨x, rfl⟩ := Int.eq_ofNat_of_zero_le h0
  obtain ⟨y, rfl⟩ := Int.eq_ofNat_of_zero_le h2
  have hx : x ^^^ y < 2 ^ 62 := Nat.xor_lt_two_pow (by omega) (by omega)
  have g1 : (BitVec.ofInt 64 (x : Int)).toNat = x := by
    rw [BitVec.ofInt_natCast, BitVec.toNat_ofNat]; exact Nat.mod_eq_of_lt (by omega)
  have g2 : (BitVec.ofInt 64 (y : Int)).toNat = y := by
    rw [BitVec.ofInt_natCast, BitVec.toNat_ofNat]; exact Nat.mod_eq_of_lt (by omega)
  have e : Go.bits .xor .i64 (x : Int) (y : Int) = ((x ^^^ y : Nat) : Int) := by
    show IntKind.i64.wrap ((BitVec.ofInt 64 (x : Int) ^^^ BitVec.ofInt 64 (y : Int)).toNat : Int) = _
    rw [BitVec.toNat_xor, g1, g2, IntKind.wrap_i64]
    omega
  rw [e]
  omega
theorem tmod_range {a n : Int} (h0 : 0 ≤ a) (hn : 1 ≤ n) : 0 ≤ Int.tmod a n ∧ Int.tmod a n < n := by
  rw [Int.tmod_eq_emod_of_nonneg h0]
  exact ⟨Int.emod_nonneg _ (by omega), Int.emod_lt_of_pos _ (by omega)⟩
theorem pick_t {n m : Int} {r : spec_l20Rd} (h : Rdr n r) (hn : n ≤ 1000000000) (hm : m ≤ 1000000) : Tot (spec_l20Rd_pick r m) (fun x => (0 ≤ x.1 ∧ (1 ≤ m → x.1 < m)) ∧ Rdr (n + 1) x.2.1) := by
  obtain ⟨hb, hp0, hp1⟩ := h
  obtain ⟨b, p⟩ := r
  dsimp only at hb hp0 hp1
  have fin : Rdr (n + 1) ⟨b, p + 1⟩ := ⟨hb, by show 0 ≤ p + 1; omega, by show p + 1 ≤ n + 1; omega⟩
  rw [spec_l20Rd_pick_eq]
  simp only [cond_dec]
  rw [w64 (n := p + 1) (by omega) (by omega), w64 (n := p + 1 - 1) (by omega) (by omega), show p + 1 - 1 = p by omega]
  refine Tot.ite (fun e => Tot.val ⟨⟨Int.le_refl _, fun h => by omega⟩, fin⟩) fun e => ?_
  refine Tot.ite (fun e0 => Tot.val ⟨⟨Int.le_refl _, fun h => by show (0 : Int) < m; omega⟩, fin⟩) fun e0 => ?_
  refine Tot.ite (fun e1 => ?_) fun e1 => ?_
  · have hr := hb.get p (by omega)
    refine Tot.chk hp0 (Tot.chk e1 (Tot.ok (by rw [decide_eq_false (show ¬ m = 0 by omega)]; rfl) (Tot.val ⟨?_, fin⟩)))
    rw [w64 (n := rdAt b p.toNat 0) (by omega) (by omega)]
    have := tmod_range hr.1 (n := m) (by omega)
    exact ⟨this.1, fun _ => this.2⟩
  · have hl := hb.1
    have t1 := tmod_range hp0 (n := (b.length : Int)) (by omega)
    have t2 := tmod_range (a := p * 7 + 3) (by omega) (n := (b.length : Int)) (by omega)
    have r1 := hb.get (Int.tmod p b.length) (by omega)
    have r2 := hb.get (Int.tmod (p * 7 + 3) b.length) (by omega)
    have td : Int.tdiv p b.length = p / b.length := Int.tdiv_eq_ediv_of_nonneg hp0
    have d0 : 0 ≤ p / (b.length : Int) := Int.ediv_nonneg hp0 (by omega)
    have d1 : p / (b.length : Int) ≤ p := Int.ediv_le_self _ hp0
    rw [w64 (n := p * 7) (by omega) (by omega), w64 (n := p * 7 + 3) (by omega) (by omega)]
    refine Tot.ok (by rw [decide_eq_false e0]; rfl) (Tot.chk t1.1 (Tot.chk t1.2 (Tot.ok (by rw [decide_eq_false e0]; rfl) (Tot.chk t2.1 (Tot.chk t2.2 (Tot.ok (by rw [decide_eq_false e0]; rfl) (Tot.ok (by rw [decide_eq_false (show ¬ m = 0 by omega)]; rfl) (Tot.val ⟨?_, fin⟩))))))))
    dsimp only
    generalize rdAt b (Int.toNat (Int.tmod p b.length)) 0 = A at *
    generalize rdAt b (Int.toNat (Int.tmod (p * 7 + 3) b.length)) 0 = B at *
    rw [td]
    generalize p / (b.length : Int) = D at *
    rw [w64 (n := A) (by omega) (by omega), w64 (n := B) (by omega) (by omega), w64 (n := D) (by omega) (by omega), w64 (n := A * 131) (by omega) (by omega), w64 (n := B * 1117) (by omega) (by omega), w64 (n := p * 29) (by omega) (by omega), w64 (n := D * 53) (by omega) (by omega),
      w64 (n := A * 131 + B * 1117) (by omega) (by omega), w64 (n := A * 131 + B * 1117 + p * 29) (by omega) (by omega), w64 (n := A * 131 + B * 1117 + p * 29 + D * 53) (by omega) (by omega)]
    generalize hX : A * 131 + B * 1117 + p * 29 + D * 53 = X
    have q0 : 0 ≤ X := by omega
    have q1 : X ≤ 1000000000000000 := by omega
    have e64 : Int.tdiv X 64 = X / 64 := Int.tdiv_eq_ediv_of_nonneg q0
    rw [e64, w64 (n := X / 64) (by omega) (by omega)]
    have hx := xor_range X (X / 64) q0 (by omega) (by omega) (by omega)
    have := tmod_range hx.1 (n := m) (by omega)
    exact ⟨this.1, fun _ => this.2⟩
theorem odd_t {n m : Int} {r : spec_l20Rd} (h : Rdr n r) (hn : n ≤ 1000000000) (hm : m ≤ 1000000) : Tot (spec_l20Rd_odd r m) (fun x => Rdr (n + 1) x.2.1) := by
  rw [spec_l20Rd_odd_eq, cond_dec]
  exact Tot.ite (fun _ => (pick_t h hn hm).bind fun x hx => Tot.val hx.2) fun _ => Tot.val (h.up (by omega))
theorem sonSize (xs : List Int) : (strOfInts xs).size = xs.length := by simp [strOfInts, ByteArray.size]
theorem key7_t {n : Int} (hn : n ≤ 900000000) : ∀ (k : Nat) (s : ByteArray) (r : spec_l20Rd), k ≤ 100 → Rdr (n - k) r → s.size + k ≤ 1000 → Tot (spec_l20Key_7 s (k : Int) r) (fun x => Rdr n x.2.1)
  | 0, s, r, hk, h, hs => by rw [spec_l20Key_7_eq, cond_dec, if_neg (by omega)]; exact Tot.val (h.up (by omega))
  | k + 1, s, r, hk, h, hs => by
    rw [spec_l20Key_7_eq]
    simp only [cond_dec, if_pos (show (0 : Int) < ((k + 1 : Nat) : Int) by omega), w64 (n := ((k + 1 : Nat) : Int) - 1) (by omega) (by omega)]
    refine (pick_t h (by omega) (by omega)).bind fun x hx => ?_
    refine Tot.chk (by rw [sonSize]; simp only [List.length_cons, List.length_nil]; omega) ?_
    rw [show ((k + 1 : Nat) : Int) - 1 = (k : Int) by omega]
    refine key7_t hn k _ _ (by omega) (hx.2.up (by omega)) ?_
    have : (strOfInts [IntKind.u8.wrap (wrap64 (97 + x.1))]).size = 1 := by rw [sonSize]; rfl
    rw [ByteArray.size_append]; omega
theorem key_t {n m : Int} {r : spec_l20Rd} (h : Rdr n r) (hn : n ≤ 800000000) (hm : m ≤ 1000000) : Tot (spec_l20Key r m) (fun x => Rdr (n + 5) x.2.1) := by
  rw [spec_l20Key_eq]
  simp only [cond_dec]
  refine (odd_t h (by omega) hm).bind fun x hx => Tot.bif (fun _ => ?_) fun _ => ?_
  · refine (pick_t hx (by omega) (by omega)).bind fun y hy => Tot.chk hy.1.1 (Tot.chk ?_ (Tot.val (hy.2.up (by omega))))
    have := hy.1.2 (by omega)
    simp; omega
  · refine (pick_t hx (by omega) (by omega)).bind fun y hy => Tot.ite (fun _ => ?_) fun _ => ?_
    · refine (pick_t hy.2 (by omega) (by omega)).bind fun z hz => Tot.chk hz.1.1 (Tot.chk ?_ (Tot.val (hz.2.up (by omega))))
      have := hz.1.2 (by omega)
      simp; omega
    · refine (pick_t hy.2 (by omega) (by omega)).bind fun z hz => ?_
      have := hz.1.2 (by omega)
      have h0 := hz.1.1
      rw [w64 (n := 1 + z.1) (by omega) (by omega), show 1 + z.1 = ((1 + z.1).toNat : Int) by omega]
      have hs : es.size = 0 := rfl
      exact key7_t (n := n + 5) (by omega) _ es _ (by omega) (hz.2.up (by omega)) (by omega)
theorem value_t {n m : Int} {r : spec_l20Rd} (h : Rdr n r) (hn : n ≤ 800000000) (hm : m ≤ 1000000) : Tot (spec_l20Value r m) (fun x => Rdr (n + 3) x.2.1) := by
  rw [spec_l20Value_eq]
  simp only [cond_dec]
  refine (odd_t h (by omega) hm).bind fun x hx => Tot.bif (fun _ => ?_) fun _ => ?_
  · refine (pick_t hx (by omega) (by omega)).bind fun y hy => Tot.chk hy.1.1 (Tot.chk ?_ (Tot.val (hy.2.up (by omega))))
    have := hy.1.2 (by omega)
    simp; omega
  · refine (pick_t hx (by omega) (by omega)).bind fun y hy => (pick_t hy.2 (by omega) (by omega)).bind fun z hz => ?_
    have h1 := hz.1.2 (by omega)
    have hd : Int.tdiv z.1 8 = z.1 / 8 := Int.tdiv_eq_ediv_of_nonneg hz.1.1
    have h0 := hz.1.1
    rw [hd, w64 (n := z.1 / 8) (by omega) (by omega)]
    exact Tot.chk (by omega) (Tot.chk (by simp; omega) (Tot.val (hz.2.up (by omega))))
theorem cmd_t {n m : Int} {r : spec_l20Rd} (h : Rdr n r) (hn : n ≤ 700000000) (hm : m ≤ 1000000) : Tot (spec_l20Cmd r m) (fun x => Rdr (n + 14) x.2.1) := by
  rw [spec_l20Cmd_eq]
  simp only [cond_dec]
  refine (odd_t h (by omega) hm).bind fun x hx => Tot.bif (fun _ => ?_) fun _ => ?_
  · refine (pick_t hx (by omega) (by omega)).bind fun y hy => Tot.chk hy.1.1 (Tot.chk ?_ (Tot.val (hy.2.up (by omega))))
    have := hy.1.2 (by omega)
    simp; omega
  · refine (key_t hx (by omega) (by omega)).bind fun y hy => (pick_t hy (by omega) (by omega)).bind fun z hz => Tot.ite (fun _ => ?_) fun _ => ?_
    · refine (pick_t hz.2 (by omega) (by omega)).bind fun u hu => Tot.chk hu.1.1 (Tot.chk ?_ ?_)
      · have := hu.1.2 (by omega)
        simp; omega
      · refine (pick_t hu.2 (by omega) (by omega)).bind fun v hv => Tot.ite (fun _ => Tot.val (hv.2.up (by omega))) fun _ => Tot.ite (fun _ => Tot.val (hv.2.up (by omega))) fun _ => Tot.ite (fun _ => ?_) fun _ => ?_
        · exact (pick_t hv.2 (by omega) (by omega)).bind fun a ha => (pick_t ha.2 (by omega) (by omega)).bind fun b hb => Tot.val (hb.2.up (by omega))
        · exact (value_t hv.2 (by omega) (by omega)).bind fun a ha => Tot.val (ha.up (by omega))
    · refine (pick_t hz.2 (by omega) (by omega)).bind fun v hv => Tot.ite (fun _ => Tot.val (hv.2.up (by omega))) fun _ => Tot.ite (fun _ => Tot.val (hv.2.up (by omega))) fun _ => Tot.ite (fun _ => ?_) fun _ => ?_
      · exact (pick_t hv.2 (by omega) (by omega)).bind fun a ha => (pick_t ha.2 (by omega) (by omega)).bind fun b hb => Tot.val (hb.2.up (by omega))
      · exact (value_t hv.2 (by omega) (by omega)).bind fun a ha => Tot.val (ha.up (by omega))
theorem span_t {n m : Int} {r : spec_l20Rd} (h : Rdr n r) (hn : n ≤ 500000000) (hm : m ≤ 1000000) : Tot (spec_l20Span r m) (fun x => Rdr (n + 20) x.2.1) := by
  rw [spec_l20Span_eq]
  simp only [cond_dec]
  refine (odd_t h (by omega) hm).bind fun x hx => Tot.bif (fun _ => ?_) fun _ => ?_
  · refine (pick_t hx (by omega) (by omega)).bind fun y hy => Tot.chk hy.1.1 (Tot.chk ?_ (Tot.val (hy.2.up (by omega))))
    have := hy.1.2 (by omega)
    simp; omega
  · refine (key_t hx (by omega) (by omega)).bind fun y hy => (key_t hy (by omega) (by omega)).bind fun z hz => (pick_t hz (by omega) (by omega)).bind fun u hu => ?_
    have fin : Rdr (n + 20) u.2.1 := hu.2.up (by omega)
    refine Tot.ite (fun _ => Tot.val fin) fun _ => Tot.ite (fun _ => Tot.val fin) fun _ => Tot.ite (fun _ => ?_) fun _ => ?_
    · exact Tot.bif (fun _ => Tot.val fin) fun _ => Tot.bif (fun _ => Tot.val fin) fun _ => Tot.bif (fun _ => Tot.val fin) fun _ => Tot.val fin
    · exact Tot.bif (fun _ => Tot.val fin) fun _ => Tot.bif (fun _ => Tot.val fin) fun _ => Tot.val fin
/-! ### Pairs -/
theorem scan5_t (xs : List impl_Pair) (hx : xs.length ≤ 48) (v : impl_Interval) (m : Int) : ∀ (j : Nat) (i : Int) (out : List impl_Pair), i + j = xs.length → 0 ≤ i → out.length ≤ i.toNat → Tot (spec_PairScan_5 xs m i v out) (fun x => x.1.length ≤ 48)
  | 0, i, out, hi, h0, ho => by rw [spec_PairScan_5_eq, cond_dec, if_neg (by omega)]; exact Tot.val (by show out.length ≤ 48; omega)
  | j + 1, i, out, hi, h0, ho => by
    rw [spec_PairScan_5_eq]
    simp only [cond_dec]
    rw [if_pos (by omega), w64 (n := i + 1) (by omega) (by omega)]
    refine Tot.ite (fun _ => ?_) fun _ => Tot.val (by show out.length ≤ 48; omega)
    refine Tot.chk h0 (Tot.chk (by omega) ?_)
    rw [spec_IntervalHas_f, Option.bind_some]
    refine Tot.bif (fun _ => Tot.chk h0 (Tot.chk (by omega) (Tot.ok (ble_row (by simp only [List.length_cons, List.length_nil]; omega) (by omega)) ?_))) fun _ => ?_
    · exact scan5_t xs hx v m j _ _ (by omega) (by omega) (by rw [List.length_append]; simp only [List.length_cons, List.length_nil]; omega)
    · exact scan5_t xs hx v m j _ _ (by omega) (by omega) (by omega)
theorem PairsIn_t (xs : List impl_Pair) (v : impl_Interval) : Tot (spec_PairsIn xs v) (fun x => x.1.length ≤ 48) := by
  rw [spec_PairsIn_eq, spec_PairScan_eq, spec_PairsValid_f, Option.bind_some, spec_IntervalValid_f, Option.bind_some, spec_l1In_f, Option.bind_some]
  refine Tot.bind (Q := fun x => x.1.length ≤ 48) ?_ fun x hx => Tot.val hx
  cases h : pairsOk xs with
  | false => exact Tot.val (by simp)
  | true => exact Tot.bif (fun _ => Tot.val (by simp)) fun _ => Tot.bif (fun _ => Tot.val (by simp)) fun _ => scan5_t xs (pairsOk_le h) v 48 xs.length 0 [] (by omega) (by omega) (by simp)
/-! ### States, logs -/
end Go.Proofs.YtlffjoabajdfnaaGreat.Ev
