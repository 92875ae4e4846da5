/- What is drawn from a code: the draws return, and what they return is short. No condition. -/
import Derived.Test.YthkdkojfahaeaaaGreatPuRe
import Derived.Test.YthkdkojfahaeaaaGreatPuTo
set_option linter.unusedVariables false
set_option linter.unusedSimpArgs false
namespace Go.Proofs.YthkdkojfahaeaaaGreat.Ev
open Go.Proofs.YthkdkojfahaeaaaGreat.Eng
open Go.RowKit (wrap64)
/-! ### The reader -/
def Code (b : List Int) : Prop := b.length ≤ 2000 ∧ ∀ x ∈ b, 0 ≤ x ∧ x ≤ 255
structure Rdr (n : Int) (r : spec_l20Rd) : Prop where
  code : Code r.b
  p0 : 0 ≤ r.p
  p1 : r.p ≤ n
theorem Rdr.up {n m : Int} {r : spec_l20Rd} (h : Rdr n r) (hm : n ≤ m) : Rdr m r := ⟨h.code, h.p0, Int.le_trans h.p1 hm⟩
theorem wf8 {n : Int} (h : (Lit.int .u8 n).wf = true) : 0 ≤ n ∧ n ≤ 255 := by
  simp only [Lit.wf, IntKind.min, IntKind.max, IntKind.signed, IntKind.bits, Bool.and_eq_true, decide_eq_true_eq] at h
  simp at h
  omega
theorem spec_l20Open_t {l : List Int} (h : ∀ x ∈ l, 0 ≤ x ∧ x ≤ 255) : Tot (spec_l20Open l) (fun x => Rdr 0 x.1) := by
  rw [spec_l20Open_eq]
  simp only [cond_dec]
  refine Tot.ite (fun h1 => Tot.chk (by omega) (Tot.val ⟨⟨?_, fun x hx => h x ?_⟩, Int.le_refl _, Int.le_refl _⟩)) fun h1 => Tot.val ⟨⟨by show l.length ≤ 2000; omega, h⟩, Int.le_refl _, Int.le_refl _⟩
  · show (cutList l 0 2000).length ≤ 2000
    simp [cutList]; omega
  · have hx : x ∈ cutList l 0 2000 := hx
    simp only [cutList] at hx
    exact List.mem_of_mem_take (List.mem_of_mem_drop hx)
theorem Code.get {b : List Int} (h : Code b) (i : Int) (hi : i.toNat < b.length) : 0 ≤ rdAt b i.toNat 0 ∧ rdAt b i.toNat 0 ≤ 255 := by
  rw [rd_eq' hi]
  exact h.2 _ (List.getElem_mem hi)
theorem xor_range (a b : Int) (h0 : 0 ≤ a) (h1 : a ≤ 4611686018427387903) (h2 : 0 ≤ b) (h3 : b ≤ 4611686018427387903) : 0 ≤ Go.bits .xor .i64 a b ∧ Go.bits .xor .i64 a b ≤ 4611686018427387903 := by
  obtain ⟨x, rfl⟩ := Int.eq_ofNat_of_zero_le h0
  obtain ⟨y, rfl⟩ := Int.eq_ofNat_of_zero_le h2
  have hx : x ^^^ y < 2 ^ 62 := Nat.xor_lt_two_pow (by omega) (by omega)
  have g1 : (BitVec.ofInt 64 (x : Int)).toNat = x := by
    rw [BitVec.ofInt_natCast, BitVec.toNat_ofNat]; exact Nat.mod_eq_of_lt (by omega)
  have g2 : (BitVec.ofInt 64 (y : Int)).toNat = y := by
    rw [BitVec.ofInt_natCast, BitVec.toNat_ofNat]; exact Nat.mod_eq_of_lt (by omega)
  have e : Go.bits .xor .i64 (x : Int) (y : Int) = ((x ^^^ y : Nat) : Int) := by
    show IntKind.i64.wrap ((BitVec.ofInt 64 (x : Int) ^^^ BitVec.ofInt 64 (y : Int)).toNat : Int) = _
    rw [BitVec.toNat_xor, g1, g2, IntKind.wrap_i64]
    omega
  rw [e]
  omega
theorem tmod_range {a n : Int} (h0 : 0 ≤ a) (hn : 1 ≤ n) : 0 ≤ Int.tmod a n ∧ Int.tmod a n < n := by
  rw [Int.tmod_eq_emod_of_nonneg h0]
  exact ⟨Int.emod_nonneg _ (by omega), Int.emod_lt_of_pos _ (by omega)⟩
theorem pick_t {n m : Int} {r : spec_l20Rd} (h : Rdr n r) (hn : n ≤ 1000000000) (hm : m ≤ 1000000) : Tot (spec_l20Rd_pick r m) (fun x => (0 ≤ x.1 ∧ (1 ≤ m → x.1 < m)) ∧ Rdr (n + 1) x.2.1) := by
  obtain ⟨hb, hp0, hp1⟩ := h
  obtain ⟨b, p⟩ := r
  dsimp only at hb hp0 hp1
  have fin : Rdr (n + 1) ⟨b, p + 1⟩ := ⟨hb, by show 0 ≤ p + 1; omega, by show p + 1 ≤ n + 1; omega⟩
  rw [spec_l20Rd_pick_eq]
  simp only [cond_dec]
  rw [w64 (n := p + 1) (by omega) (by omega), w64 (n := p + 1 - 1) (by omega) (by omega), show p + 1 - 1 = p by omega]
  refine Tot.ite (fun e => Tot.val ⟨⟨Int.le_refl _, fun h => by omega⟩, fin⟩) fun e => ?_
  refine Tot.ite (fun e0 => Tot.val ⟨⟨Int.le_refl _, fun h => by show (0 : Int) < m; omega⟩, fin⟩) fun e0 => ?_
  refine Tot.ite (fun e1 => ?_) fun e1 => ?_
  · have hr := hb.get p (by omega)
    refine Tot.chk hp0 (Tot.chk e1 (Tot.ok (by rw [decide_eq_false (show ¬ m = 0 by omega)]; rfl) (Tot.val ⟨?_, fin⟩)))
    rw [w64 (n := rdAt b p.toNat 0) (by omega) (by omega)]
    have := tmod_range hr.1 (n := m) (by omega)
    exact ⟨this.1, fun _ => this.2⟩
  · have hl := hb.1
    have t1 := tmod_range hp0 (n := (b.length : Int)) (by omega)
    have t2 := tmod_range (a := p * 7 + 3) (by omega) (n := (b.length : Int)) (by omega)
    have r1 := hb.get (Int.tmod p b.length) (by omega)
    have r2 := hb.get (Int.tmod (p * 7 + 3) b.length) (by omega)
    have td : Int.tdiv p b.length = p / b.length := Int.tdiv_eq_ediv_of_nonneg hp0
    have d0 : 0 ≤ p / (b.length : Int) := Int.ediv_nonneg hp0 (by omega)
    have d1 : p / (b.length : Int) ≤ p := Int.ediv_le_self _ hp0
    rw [w64 (n := p * 7) (by omega) (by omega), w64 (n := p * 7 + 3) (by omega) (by omega)]
    refine Tot.ok (by rw [decide_eq_false e0]; rfl) (Tot.chk t1.1 (Tot.chk t1.2 (Tot.ok (by rw [decide_eq_false e0]; rfl) (Tot.chk t2.1 (Tot.chk t2.2 (Tot.ok (by rw [decide_eq_false e0]; rfl) (Tot.ok (by rw [decide_eq_false (show ¬ m = 0 by omega)]; rfl) (Tot.val ⟨?_, fin⟩))))))))
    dsimp only
    generalize rdAt b (Int.toNat (Int.tmod p b.length)) 0 = A at *
    generalize rdAt b (Int.toNat (Int.tmod (p * 7 + 3) b.length)) 0 = B at *
    rw [td]
    generalize p / (b.length : Int) = D at *
    rw [w64 (n := A) (by omega) (by omega), w64 (n := B) (by omega) (by omega), w64 (n := D) (by omega) (by omega), w64 (n := A * 131) (by omega) (by omega), w64 (n := B * 1117) (by omega) (by omega), w64 (n := p * 29) (by omega) (by omega), w64 (n := D * 53) (by omega) (by omega),
      w64 (n := A * 131 + B * 1117) (by omega) (by omega), w64 (n := A * 131 + B * 1117 + p * 29) (by omega) (by omega), w64 (n := A * 131 + B * 1117 + p * 29 + D * 53) (by omega) (by omega)]
    generalize hX : A * 131 + B * 1117 + p * 29 + D * 53 = X
    have q0 : 0 ≤ X := by omega
    have q1 : X ≤ 1000000000000000 := by omega
    have e64 : Int.tdiv X 64 = X / 64 := Int.tdiv_eq_ediv_of_nonneg q0
    rw [e64, w64 (n := X / 64) (by omega) (by omega)]
    have hx := xor_range X (X / 64) q0 (by omega) (by omega) (by omega)
    have := tmod_range hx.1 (n := m) (by omega)
    exact ⟨this.1, fun _ => this.2⟩
theorem odd_t {n m : Int} {r : spec_l20Rd} (h : Rdr n r) (hn : n ≤ 1000000000) (hm : m ≤ 1000000) : Tot (spec_l20Rd_odd r m) (fun x => Rdr (n + 1) x.2.1) := by
  rw [spec_l20Rd_odd_eq, cond_dec]
  exact Tot.ite (fun _ => (pick_t h hn hm).bind fun x hx => Tot.val hx.2) fun _ => Tot.val (h.up (by omega))
theorem sonSize (xs : List Int) : (strOfInts xs).size = xs.length := by simp [strOfInts, ByteArray.size]
theorem key7_t {n : Int} (hn : n ≤ 900000000) : ∀ (k : Nat) (s : ByteArray) (r : spec_l20Rd), k ≤ 100 → Rdr (n - k) r → s.size + k ≤ 1000 → Tot (spec_l20Key_7 s (k : Int) r) (fun x => Rdr n x.2.1)
  | 0, s, r, hk, h, hs => by rw [spec_l20Key_7_eq, cond_dec, if_neg (by omega)]; exact Tot.val (h.up (by omega))
  | k + 1, s, r, hk, h, hs => by
    rw [spec_l20Key_7_eq]
    simp only [cond_dec, if_pos (show (0 : Int) < ((k + 1 : Nat) : Int) by omega), w64 (n := ((k + 1 : Nat) : Int) - 1) (by omega) (by omega)]
    refine (pick_t h (by omega) (by omega)).bind fun x hx => ?_
    refine Tot.chk (by rw [sonSize]; simp only [List.length_cons, List.length_nil]; omega) ?_
    rw [show ((k + 1 : Nat) : Int) - 1 = (k : Int) by omega]
    refine key7_t hn k _ _ (by omega) (hx.2.up (by omega)) ?_
    have : (strOfInts [IntKind.u8.wrap (wrap64 (97 + x.1))]).size = 1 := by rw [sonSize]; rfl
    rw [ByteArray.size_append]; omega
theorem key_t {n m : Int} {r : spec_l20Rd} (h : Rdr n r) (hn : n ≤ 800000000) (hm : m ≤ 1000000) : Tot (spec_l20Key r m) (fun x => Rdr (n + 5) x.2.1) := by
  rw [spec_l20Key_eq]
  simp only [cond_dec]
  refine (odd_t h (by omega) hm).bind fun x hx => Tot.bif (fun _ => ?_) fun _ => ?_
  · refine (pick_t hx (by omega) (by omega)).bind fun y hy => Tot.chk hy.1.1 (Tot.chk ?_ (Tot.val (hy.2.up (by omega))))
    have := hy.1.2 (by omega)
    simp; omega
  · refine (pick_t hx (by omega) (by omega)).bind fun y hy => Tot.ite (fun _ => ?_) fun _ => ?_
    · refine (pick_t hy.2 (by omega) (by omega)).bind fun z hz => Tot.chk hz.1.1 (Tot.chk ?_ (Tot.val (hz.2.up (by omega))))
      have := hz.1.2 (by omega)
      simp; omega
    · refine (pick_t hy.2 (by omega) (by omega)).bind fun z hz => ?_
      have := hz.1.2 (by omega)
      have h0 := hz.1.1
      rw [w64 (n := 1 + z.1) (by omega) (by omega), show 1 + z.1 = ((1 + z.1).toNat : Int) by omega]
      have hs : es.size = 0 := rfl
      exact key7_t (n := n + 5) (by omega) _ es _ (by omega) (hz.2.up (by omega)) (by omega)
theorem value_t {n m : Int} {r : spec_l20Rd} (h : Rdr n r) (hn : n ≤ 800000000) (hm : m ≤ 1000000) : Tot (spec_l20Value r m) (fun x => Rdr (n + 3) x.2.1) := by
  rw [spec_l20Value_eq]
  simp only [cond_dec]
  refine (odd_t h (by omega) hm).bind fun x hx => Tot.bif (fun _ => ?_) fun _ => ?_
  · refine (pick_t hx (by omega) (by omega)).bind fun y hy => Tot.chk hy.1.1 (Tot.chk ?_ (Tot.val (hy.2.up (by omega))))
    have := hy.1.2 (by omega)
    simp; omega
  · refine (pick_t hx (by omega) (by omega)).bind fun y hy => (pick_t hy.2 (by omega) (by omega)).bind fun z hz => ?_
    have h1 := hz.1.2 (by omega)
    have hd : Int.tdiv z.1 8 = z.1 / 8 := Int.tdiv_eq_ediv_of_nonneg hz.1.1
    have h0 := hz.1.1
    rw [hd, w64 (n := z.1 / 8) (by omega) (by omega)]
    exact Tot.chk (by omega) (Tot.chk (by simp; omega) (Tot.val (hz.2.up (by omega))))
theorem cmd_t {n m : Int} {r : spec_l20Rd} (h : Rdr n r) (hn : n ≤ 700000000) (hm : m ≤ 1000000) : Tot (spec_l20Cmd r m) (fun x => Rdr (n + 14) x.2.1) := by
  rw [spec_l20Cmd_eq]
  simp only [cond_dec]
  refine (odd_t h (by omega) hm).bind fun x hx => Tot.bif (fun _ => ?_) fun _ => ?_
  · refine (pick_t hx (by omega) (by omega)).bind fun y hy => Tot.chk hy.1.1 (Tot.chk ?_ (Tot.val (hy.2.up (by omega))))
    have := hy.1.2 (by omega)
    simp; omega
  · refine (key_t hx (by omega) (by omega)).bind fun y hy => (pick_t hy (by omega) (by omega)).bind fun z hz => Tot.ite (fun _ => ?_) fun _ => ?_
    · refine (pick_t hz.2 (by omega) (by omega)).bind fun u hu => Tot.chk hu.1.1 (Tot.chk ?_ ?_)
      · have := hu.1.2 (by omega)
        simp; omega
      · refine (pick_t hu.2 (by omega) (by omega)).bind fun v hv => Tot.ite (fun _ => Tot.val (hv.2.up (by omega))) fun _ => Tot.ite (fun _ => Tot.val (hv.2.up (by omega))) fun _ => Tot.ite (fun _ => ?_) fun _ => ?_
        · exact (pick_t hv.2 (by omega) (by omega)).bind fun a ha => (pick_t ha.2 (by omega) (by omega)).bind fun b hb => Tot.val (hb.2.up (by omega))
        · exact (value_t hv.2 (by omega) (by omega)).bind fun a ha => Tot.val (ha.up (by omega))
    · refine (pick_t hz.2 (by omega) (by omega)).bind fun v hv => Tot.ite (fun _ => Tot.val (hv.2.up (by omega))) fun _ => Tot.ite (fun _ => Tot.val (hv.2.up (by omega))) fun _ => Tot.ite (fun _ => ?_) fun _ => ?_
      · exact (pick_t hv.2 (by omega) (by omega)).bind fun a ha => (pick_t ha.2 (by omega) (by omega)).bind fun b hb => Tot.val (hb.2.up (by omega))
      · exact (value_t hv.2 (by omega) (by omega)).bind fun a ha => Tot.val (ha.up (by omega))
theorem any_t {n m : Int} {r : spec_l20Rd} (h : Rdr n r) (hn : n ≤ 600000000) (hm : m ≤ 1000000) : Tot (spec_l20Any r m) (fun x => Rdr (n + 24) x.2.1) := by
  rw [spec_l20Any_eq]
  simp only [cond_dec]
  refine (cmd_t h (by omega) hm).bind fun x hx => (pick_t hx (by omega) (by omega)).bind fun y hy => Tot.ite (fun _ => ?_) fun _ => Tot.val (hy.2.up (by omega))
  refine (key_t hy.2 (by omega) (by omega)).bind fun z hz => (pick_t hz (by omega) (by omega)).bind fun u hu => Tot.chk hu.1.1 (Tot.chk ?_ (Tot.val (hu.2.up (by omega))))
  have := hu.1.2 (by omega)
  simp; omega
theorem entry_t {n m : Int} {r : spec_l20Rd} (h : Rdr n r) (hn : n ≤ 500000000) (hm : m ≤ 1000000) : Tot (spec_l20Entry r m) (fun x => Rdr (n + 30) x.2.1) := by
  rw [spec_l20Entry_eq]
  simp only [cond_dec]
  refine (pick_t h (by omega) (by omega)).bind fun x hx => (pick_t hx.2 (by omega) (by omega)).bind fun y hy => (any_t hy.2 (by omega) (by omega)).bind fun z hz => (odd_t hz (by omega) hm).bind fun u hu => Tot.bif (fun _ => ?_) fun _ => Tot.val (hu.up (by omega))
  refine (pick_t hu (by omega) (by omega)).bind fun v hv => Tot.chk hv.1.1 (Tot.chk ?_ (Tot.val (hv.2.up (by omega))))
  have := hv.1.2 (by omega)
  simp; omega
theorem span_t {n m : Int} {r : spec_l20Rd} (h : Rdr n r) (hn : n ≤ 500000000) (hm : m ≤ 1000000) : Tot (spec_l20Span r m) (fun x => Rdr (n + 20) x.2.1) := by
  rw [spec_l20Span_eq]
  simp only [cond_dec]
  refine (odd_t h (by omega) hm).bind fun x hx => Tot.bif (fun _ => ?_) fun _ => ?_
  · refine (pick_t hx (by omega) (by omega)).bind fun y hy => Tot.chk hy.1.1 (Tot.chk ?_ (Tot.val (hy.2.up (by omega))))
    have := hy.1.2 (by omega)
    simp; omega
  · refine (key_t hx (by omega) (by omega)).bind fun y hy => (key_t hy (by omega) (by omega)).bind fun z hz => (pick_t hz (by omega) (by omega)).bind fun u hu => ?_
    have fin : Rdr (n + 20) u.2.1 := hu.2.up (by omega)
    refine Tot.ite (fun _ => Tot.val fin) fun _ => Tot.ite (fun _ => Tot.val fin) fun _ => Tot.ite (fun _ => ?_) fun _ => ?_
    · exact Tot.bif (fun _ => Tot.val fin) fun _ => Tot.bif (fun _ => Tot.val fin) fun _ => Tot.bif (fun _ => Tot.val fin) fun _ => Tot.val fin
    · exact Tot.bif (fun _ => Tot.val fin) fun _ => Tot.bif (fun _ => Tot.val fin) fun _ => Tot.val fin
theorem session_t {n m : Int} {r : spec_l20Rd} (h : Rdr n r) (hn : n ≤ 500000000) (hm : m ≤ 1000000) : Tot (spec_l20Session r m) (fun x => Rdr (n + 5) x.2.1) := by
  rw [spec_l20Session_eq]
  simp only [cond_dec]
  refine (odd_t h (by omega) hm).bind fun x hx => Tot.bif (fun _ => ?_) fun _ => ?_
  · refine (pick_t hx (by omega) (by omega)).bind fun y hy => Tot.chk hy.1.1 (Tot.chk ?_ (Tot.val (hy.2.up (by omega))))
    have := hy.1.2 (by omega)
    simp; omega
  · exact (pick_t hx (by omega) (by omega)).bind fun y hy => (pick_t hy.2 (by omega) (by omega)).bind fun z hz => (pick_t hz.2 (by omega) (by omega)).bind fun u hu => Tot.val (hu.2.up (by omega))
theorem sessions3_t {n m : Int} (hn : n ≤ 400000000) (hm : m ≤ 1000000) : ∀ (k : Nat) (r : spec_l20Rd) (l : List impl_Session), k ≤ 100 → Rdr (n + 5 * (100 - k)) r → l.length ≤ 5 → Tot (spec_l20Sessions_3 m (k : Int) r l) (fun x => x.1.length ≤ 20 ∧ Rdr (n + 600) x.2.1)
  | 0, r, l, hk, h, hl => by
    rw [spec_l20Sessions_3_eq]
    simp only [cond_dec]
    rw [if_neg (by omega)]
    refine (odd_t h (by omega) hm).bind fun x hx => Tot.bif (fun _ => ?_) fun _ => Tot.val ⟨by show l.length ≤ 20; omega, hx.up (by omega)⟩
    refine (pick_t hx (by omega) (by omega)).bind fun y hy => Tot.ite (fun _ => Tot.ok (ble_row (by omega) (by omega)) (Tot.val ⟨by simp; omega, hy.2.up (by omega)⟩)) fun _ => ?_
    exact (session_t hy.2 (by omega) (by omega)).bind fun z hz => Tot.ok (ble_row (by simp; omega) (by omega)) (Tot.val ⟨by simp; omega, hz.up (by omega)⟩)
  | k + 1, r, l, hk, h, hl => by
    rw [spec_l20Sessions_3_eq]
    simp only [cond_dec]
    rw [if_pos (by omega), w64 (n := ((k + 1 : Nat) : Int) - 1) (by omega) (by omega), show ((k + 1 : Nat) : Int) - 1 = (k : Int) by omega]
    refine (session_t h (by omega) (by omega)).bind fun x hx => ?_
    rw [spec_SessionPut_f l x.1 (by omega), Option.bind_some]
    exact sessions3_t hn hm k _ _ (by omega) (hx.up (by omega)) (sessPut_length _ _)
theorem sessions_t {n m : Int} {r : spec_l20Rd} (h : Rdr n r) (hn : n ≤ 300000000) (hm : m ≤ 1000000) : Tot (spec_l20Sessions r m) (fun x => x.1.length ≤ 20 ∧ Rdr (n + 1101) x.2.1) := by
  rw [spec_l20Sessions_eq]
  refine (pick_t h (by omega) (by omega)).bind fun x hx => ?_
  have := hx.1.2 (by omega)
  have h0 := hx.1.1
  rw [show x.1 = (x.1.toNat : Int) by omega]
  exact (sessions3_t (n := n + 501) (by omega) hm x.1.toNat _ [] (by omega) (hx.2.up (by omega)) (by simp)).mono fun y hy => ⟨hy.1, hy.2.up (by omega)⟩
/-! ### Pairs -/
theorem spec_l1Weight_t (i : Int) : Tot (spec_l1Weight i) (fun x => x.1 ≠ 0) := by
  rw [spec_l1Weight_eq]
  simp only [cond_dec]
  exact Tot.ite (fun _ => Tot.val (by simp)) fun _ => Tot.ite (fun _ => Tot.val (by simp)) fun _ => Tot.ite (fun _ => Tot.val (by simp)) fun _ => Tot.val (by simp)
theorem KeyAt5_t : ∀ (j : Nat) (x i : Int) (s : ByteArray), i + j = 4 → 0 ≤ i → s.size = i.toNat → Tot (spec_KeyAt_5 x s i) (fun _ => True)
  | 0, x, i, s, hi, h0, hs => by rw [spec_KeyAt_5_eq, cond_dec, if_neg (by omega)]; exact Tot.val trivial
  | j + 1, x, i, s, hi, h0, hs => by
    rw [spec_KeyAt_5_eq]
    simp only [cond_dec]
    have h1 := sonSize
    rw [if_pos (by omega), w64 (n := i + 1) (by omega) (by omega)]
    refine (spec_l1Weight_t i).bind fun a ha => Tot.ok (by simpa using ha) (Tot.chk (by rw [h1]; simp only [List.length_cons, List.length_nil]; omega) ?_)
    refine (spec_l1Weight_t i).bind fun b hb => Tot.ok (by simpa using hb) (Tot.ite (fun _ => Tot.val trivial) fun _ => ?_)
    exact KeyAt5_t j _ _ _ (by omega) (by omega) (by rw [ByteArray.size_append, h1]; simp only [List.length_cons, List.length_nil]; omega)
theorem KeyAt_t (x : Int) : Tot (spec_KeyAt x) (fun _ => True) := by
  rw [spec_KeyAt_eq, spec_l1In_f, Option.bind_some]
  exact Tot.bif (fun _ => Tot.val trivial) fun _ => KeyAt5_t 4 _ _ _ (by omega) (by omega) rfl
theorem pairs13_t {n m : Int} {r : spec_l20Rd} {l : List impl_Pair} (h : Rdr n r) (hn : n ≤ 500000000) (hm : m ≤ 1000000) (hl : l.length ≤ 48) : Tot (spec_l20Pairs_13 m r l) (fun x => x.1.length ≤ 49 ∧ Rdr (n + 2) x.2.1) := by
  rw [spec_l20Pairs_13_eq]
  simp only [cond_dec]
  refine (odd_t h (by omega) hm).bind fun x hx => Tot.bif (fun _ => ?_) fun _ => Tot.val ⟨by show l.length ≤ 49; omega, hx.up (by omega)⟩
  refine (pick_t hx (by omega) (by omega)).bind fun y hy => Tot.chk hy.1.1 (Tot.chk ?_ (Tot.ok (ble_row (by simp; omega) (by omega)) (Tot.val ⟨by simp; omega, hy.2.up (by omega)⟩)))
  have := hy.1.2 (by omega)
  simp; omega
theorem pairs9_t {n m : Int} {r : spec_l20Rd} (h : Rdr n r) (hn : n ≤ 500000000) (hm : m ≤ 1000000) : ∀ (j : Nat) (i : Int) (l : List impl_Pair), i + j = 200 → 0 ≤ i → l.length ≤ 48 → Tot (spec_l20Pairs_9 m i r l) (fun x => x.1.length ≤ 49 ∧ Rdr (n + 2) x.2.1)
  | 0, i, l, hi, h0, hl => by
    rw [spec_l20Pairs_9_eq]
    simp only [cond_dec]
    exact Tot.ite (fun _ => by rw [if_neg (by omega)]; exact pairs13_t h hn hm hl) fun _ => pairs13_t h hn hm hl
  | j + 1, i, l, hi, h0, hl => by
    rw [spec_l20Pairs_9_eq]
    simp only [cond_dec]
    refine Tot.ite (fun _ => ?_) fun _ => pairs13_t h hn hm hl
    rw [if_pos (by omega), w64 (n := i + 1) (by omega) (by omega)]
    refine (KeyAt_t _).bind fun x _ => ?_
    rw [spec_PairPut_f, Option.bind_some]
    exact pairs9_t h hn hm j _ _ (by omega) (by omega) (pairPut_length _ _ _)
theorem pairs3_t {n m : Int} (hn : n ≤ 400000000) (hm : m ≤ 1000000) : ∀ (k : Nat) (r : spec_l20Rd) (l : List impl_Pair), k ≤ 100 → Rdr (n + 8 * (100 - k)) r → l.length ≤ 48 → Tot (spec_l20Pairs_3 m (k : Int) r l) (fun x => x.1.length ≤ 49 ∧ Rdr (n + 900) x.2.1)
  | 0, r, l, hk, h, hl => by
    rw [spec_l20Pairs_3_eq]
    simp only [cond_dec]
    rw [if_neg (by omega)]
    refine (pick_t h (by omega) (by omega)).bind fun x hx => Tot.ite (fun _ => ?_) fun _ => ?_
    · exact (pairs9_t hx.2 (by omega) hm 200 0 l (by omega) (by omega) hl).mono fun y hy => ⟨hy.1, hy.2.up (by omega)⟩
    · exact (pairs13_t hx.2 (by omega) hm hl).mono fun y hy => ⟨hy.1, hy.2.up (by omega)⟩
  | k + 1, r, l, hk, h, hl => by
    rw [spec_l20Pairs_3_eq]
    simp only [cond_dec]
    rw [if_pos (by omega), w64 (n := ((k + 1 : Nat) : Int) - 1) (by omega) (by omega), show ((k + 1 : Nat) : Int) - 1 = (k : Int) by omega]
    refine (key_t h (by omega) (by omega)).bind fun x hx => (value_t hx (by omega) (by omega)).bind fun y hy => ?_
    rw [spec_PairPut_f, Option.bind_some]
    exact pairs3_t hn hm k _ _ (by omega) (hy.up (by omega)) (pairPut_length _ _ _)
theorem pairs_t {n m : Int} {r : spec_l20Rd} (h : Rdr n r) (hn : n ≤ 300000000) (hm : m ≤ 1000000) : Tot (spec_l20Pairs r m) (fun x => x.1.length ≤ 49 ∧ Rdr (n + 1701) x.2.1) := by
  rw [spec_l20Pairs_eq]
  refine (pick_t h (by omega) (by omega)).bind fun x hx => ?_
  have := hx.1.2 (by omega)
  have h0 := hx.1.1
  rw [show x.1 = (x.1.toNat : Int) by omega]
  exact (pairs3_t (n := n + 801) (by omega) hm x.1.toNat _ [] (by omega) (hx.2.up (by omega)) (by simp)).mono fun y hy => ⟨hy.1, hy.2.up (by omega)⟩
theorem scan5_t (xs : List impl_Pair) (hx : xs.length ≤ 48) (v : impl_Interval) (m : Int) : ∀ (j : Nat) (i : Int) (out : List impl_Pair), i + j = xs.length → 0 ≤ i → out.length ≤ i.toNat → Tot (spec_PairScan_5 xs m i v out) (fun x => x.1.length ≤ 48)
  | 0, i, out, hi, h0, ho => by rw [spec_PairScan_5_eq, cond_dec, if_neg (by omega)]; exact Tot.val (by show out.length ≤ 48; omega)
  | j + 1, i, out, hi, h0, ho => by
    rw [spec_PairScan_5_eq]
    simp only [cond_dec]
    rw [if_pos (by omega), w64 (n := i + 1) (by omega) (by omega)]
    refine Tot.ite (fun _ => ?_) fun _ => Tot.val (by show out.length ≤ 48; omega)
    refine Tot.chk h0 (Tot.chk (by omega) ?_)
    rw [spec_IntervalHas_f, Option.bind_some]
    refine Tot.bif (fun _ => Tot.chk h0 (Tot.chk (by omega) (Tot.ok (ble_row (by simp only [List.length_cons, List.length_nil]; omega) (by omega)) ?_))) fun _ => ?_
    · exact scan5_t xs hx v m j _ _ (by omega) (by omega) (by rw [List.length_append]; simp only [List.length_cons, List.length_nil]; omega)
    · exact scan5_t xs hx v m j _ _ (by omega) (by omega) (by omega)
theorem PairsIn_t (xs : List impl_Pair) (v : impl_Interval) : Tot (spec_PairsIn xs v) (fun x => x.1.length ≤ 48) := by
  rw [spec_PairsIn_eq, spec_PairScan_eq, spec_PairsValid_f, Option.bind_some, spec_IntervalValid_f, Option.bind_some, spec_l1In_f, Option.bind_some]
  refine Tot.bind (Q := fun x => x.1.length ≤ 48) ?_ fun x hx => Tot.val hx
  cases h : pairsOk xs with
  | false => exact Tot.val (by simp)
  | true => exact Tot.bif (fun _ => Tot.val (by simp)) fun _ => Tot.bif (fun _ => Tot.val (by simp)) fun _ => scan5_t xs (pairsOk_le h) v 48 xs.length 0 [] (by omega) (by omega) (by simp)
/-! ### States, logs -/
def ShortS (s : impl_State) : Prop := s.Pairs.length ≤ 100 ∧ s.Known.length ≤ 100
theorem state10_t {n m : Int} {r : spec_l20Rd} {s1 s2 : impl_State} {s3 : List impl_Pair} {s4 : List impl_Session} {p : List impl_Pair} {k : List impl_Session} (h : Rdr n r) (hn : n ≤ 200000000) (hm : m ≤ 1000000) (hp : p.length ≤ 50) (hk : k.length ≤ 50) :
    Tot (spec_l20State_10 m r s1 s2 s3 s4 p k) (fun x => ShortS x.1 ∧ Rdr (n + 2000) x.2.1) := by
  rw [spec_l20State_10_eq]
  simp only [cond_dec]
  have sh : ∀ a b c, ShortS (impl_State.mk a p k b c) := fun a b c => ⟨by show p.length ≤ 100; omega, by show k.length ≤ 100; omega⟩
  refine (odd_t h (by omega) hm).bind fun x hx => Tot.bif (fun _ => ?_) fun _ => Tot.val ⟨sh _ _ _, hx.up (by omega)⟩
  refine (pick_t hx (by omega) (by omega)).bind fun y hy => Tot.ite (fun _ => ?_) fun _ => Tot.ite (fun _ => ?_) fun _ => Tot.ite (fun _ => ?_) fun _ => Tot.ite (fun _ => Tot.val ⟨sh _ _ _, hy.2.up (by omega)⟩) fun _ => Tot.val ⟨⟨by simp, by show k.length ≤ 100; omega⟩, hy.2.up (by omega)⟩
  · exact (span_t hy.2 (by omega) (by omega)).bind fun z hz => Tot.val ⟨sh _ _ _, hz.up (by omega)⟩
  · exact (pairs_t hy.2 (by omega) (by omega)).bind fun z hz => Tot.val ⟨⟨by show z.1.length ≤ 100; have := hz.1; omega, by show k.length ≤ 100; omega⟩, hz.2.up (by omega)⟩
  · exact (sessions_t hy.2 (by omega) (by omega)).bind fun z hz => Tot.val ⟨⟨by show p.length ≤ 100; omega, by show z.1.length ≤ 100; have := hz.1; omega⟩, hz.2.up (by omega)⟩
theorem state4_t {n m : Int} {r : spec_l20Rd} {s1 : impl_State} {v : impl_Interval} {s3 : List impl_Pair} {s4 : List impl_Session} (h : Rdr n r) (hn : n ≤ 100000000) (hm : m ≤ 1000000) :
    Tot (spec_l20State_4 m r s1 v s3 s4) (fun x => ShortS x.1 ∧ Rdr (n + 5000) x.2.1) := by
  rw [spec_l20State_4_eq]
  simp only [cond_dec]
  refine (pairs_t h (by omega) (by omega)).bind fun x hx => (PairsIn_t _ _).bind fun y hy => (sessions_t hx.2 (by omega) (by omega)).bind fun z hz => (pick_t hz.2 (by omega) (by omega)).bind fun u hu => ?_
  have hy : y.1.length ≤ 50 := by omega
  have hz1 : z.1.length ≤ 50 := by have := hz.1; omega
  have go : ∀ {q : Int} {r' : spec_l20Rd} {s2 : impl_State}, Rdr q r' → q ≤ n + 2810 → Tot (spec_l20State_10 m r' s1 s2 s3 s4 y.1 z.1) (fun x => ShortS x.1 ∧ Rdr (n + 5000) x.2.1) := fun hr hq =>
    (state10_t hr (by omega) hm hy hz1).mono fun a ha => ⟨ha.1, ha.2.up (by omega)⟩
  refine Tot.ite (fun _ => ?_) fun _ => go hu.2 (by omega)
  rw [spec_IntervalCut_f, Option.bind_some]
  refine Tot.bif (fun _ => ?_) fun _ => go hu.2 (by omega)
  exact (pick_t hu.2 (by omega) (by omega)).bind fun a ha => Tot.ite (fun _ => go ha.2 (by omega)) fun _ => go ha.2 (by omega)
theorem state_t {n m : Int} {r : spec_l20Rd} (h : Rdr n r) (hn : n ≤ 90000000) (hm : m ≤ 1000000) : Tot (spec_l20State r m) (fun x => ShortS x.1 ∧ Rdr (n + 6000) x.2.1) := by
  rw [spec_l20State_eq]
  simp only [cond_dec]
  refine (span_t h (by omega) (by omega)).bind fun x hx => (pick_t hx (by omega) (by omega)).bind fun y hy => Tot.ite (fun _ => ?_) fun _ => ?_
  · exact (state4_t hy.2 (by omega) hm).mono fun a ha => ⟨ha.1, ha.2.up (by omega)⟩
  · exact (state4_t hy.2 (by omega) hm).mono fun a ha => ⟨ha.1, ha.2.up (by omega)⟩
theorem log15_t {n : Int} (hn : n ≤ 100000000) : ∀ (j : Nat) (r : spec_l20Rd) (l : List impl_Entry), l.length + j = 25 → Rdr (n + 30 * (25 - j)) r → Tot (spec_l20Log_15 r l) (fun x => x.1.length ≤ 100 ∧ Rdr (n + 800) x.2.1)
  | 0, r, l, hl, h => by rw [spec_l20Log_15_eq, cond_dec, if_neg (by omega)]; exact Tot.val ⟨by show l.length ≤ 100; omega, h.up (by omega)⟩
  | j + 1, r, l, hl, h => by
    rw [spec_l20Log_15_eq, cond_dec, if_pos (by omega)]
    exact (entry_t h (by omega) (by omega)).bind fun x hx => Tot.ok (ble_row (by simp; omega) (by omega)) (log15_t hn j _ _ (by simp; omega) (hx.up (by omega)))
theorem log3_t {n m : Int} (hn : n ≤ 90000000) (hm : m ≤ 1000000) : ∀ (k : Nat) (r : spec_l20Rd) (l : List impl_Entry), k ≤ 20 → Rdr (n + 100 * (20 - k)) r → l.length + k ≤ 20 → Tot (spec_l20Log_3 m (k : Int) r l) (fun x => x.1.length ≤ 100 ∧ Rdr (n + 4000) x.2.1)
  | 0, r, l, hk, h, hl => by
    rw [spec_l20Log_3_eq]
    simp only [cond_dec]
    rw [if_neg (by omega)]
    refine (odd_t h (by omega) hm).bind fun x hx => Tot.bif (fun _ => ?_) fun _ => Tot.val ⟨by show l.length ≤ 100; omega, hx.up (by omega)⟩
    refine (pick_t hx (by omega) (by omega)).bind fun y hy => Tot.ite (fun _ => ?_) fun _ => ?_
    · exact (entry_t hy.2 (by omega) (by omega)).bind fun z hz => Tot.ok (ble_row (by simp; omega) (by omega)) (Tot.val ⟨by simp; omega, hz.up (by omega)⟩)
    · exact (log15_t (n := n + 2100) (by omega) (25 - l.length) _ l (by omega) (hy.2.up (by omega))).mono fun z hz => ⟨hz.1, hz.2.up (by omega)⟩
  | k + 1, r, l, hk, h, hl => by
    rw [spec_l20Log_3_eq]
    simp only [cond_dec]
    rw [if_pos (by omega)]
    have e8 : ∀ {q : Int} {r' : spec_l20Rd} {e : impl_Entry}, Rdr q r' → q ≤ n + 100 * (20 - ((k + 1 : Nat) : Int)) + 60 → Tot (spec_l20Log_8 m ((k + 1 : Nat) : Int) r' l e) (fun x => x.1.length ≤ 100 ∧ Rdr (n + 4000) x.2.1) := by
      intro q r' e hr hq
      rw [spec_l20Log_8_eq]
      simp only [cond_dec]
      rw [w64 (n := ((k + 1 : Nat) : Int) - 1) (by omega) (by omega), show ((k + 1 : Nat) : Int) - 1 = (k : Int) by omega]
      refine (pick_t hr (by omega) (by omega)).bind fun x hx => ?_
      have go : ∀ {q : Int} {r' : spec_l20Rd} {e : impl_Entry}, Rdr q r' → q ≤ n + 100 * (20 - ((k + 1 : Nat) : Int)) + 90 → Tot (bif Nat.ble ((List.length l + List.length [e]) * 56) maxRow then spec_l20Log_3 m (k : Int) r' (l ++ [e]) else none) (fun x => x.1.length ≤ 100 ∧ Rdr (n + 4000) x.2.1) := fun hr hq =>
        Tot.ok (ble_row (by simp; omega) (by omega)) (log3_t hn hm k _ _ (by omega) (hr.up (by omega)) (by simp; omega))
      refine Tot.ite (fun hl0 => ?_) fun _ => go hx.2 (by omega)
      refine (pick_t hx.2 (by omega) (by omega)).bind fun y hy => Tot.ite (fun _ => ?_) fun _ => go hy.2 (by omega)
      refine (pick_t hy.2 (by omega) (by omega)).bind fun z hz => ?_
      have := hz.1.2 (by omega)
      exact Tot.chk hz.1.1 (Tot.chk (by omega) (go hz.2 (by omega)))
    refine (entry_t h (by omega) (by omega)).bind fun x hx => Tot.ite (fun _ => ?_) fun _ => e8 hx (by omega)
    refine (pick_t hx (by omega) (by omega)).bind fun y hy => Tot.ite (fun _ => ?_) fun _ => e8 hy.2 (by omega)
    exact (cmd_t hy.2 (by omega) (by omega)).bind fun z hz => e8 hz (by omega)
theorem log_t {n m : Int} {r : spec_l20Rd} (h : Rdr n r) (hn : n ≤ 80000000) (hm : m ≤ 1000000) : Tot (spec_l20Log r m) (fun x => x.1.length ≤ 100 ∧ Rdr (n + 6001) x.2.1) := by
  rw [spec_l20Log_eq]
  refine (pick_t h (by omega) (by omega)).bind fun x hx => ?_
  have := hx.1.2 (by omega)
  have h0 := hx.1.1
  rw [show x.1 = (x.1.toNat : Int) by omega]
  exact (log3_t (n := n + 1) (by omega) hm x.1.toNat _ [] (by omega) (hx.2.up (by omega)) (by simp; omega)).mono fun y hy => ⟨hy.1, hy.2.up (by omega)⟩
end Go.Proofs.YthkdkojfahaeaaaGreat.Ev
