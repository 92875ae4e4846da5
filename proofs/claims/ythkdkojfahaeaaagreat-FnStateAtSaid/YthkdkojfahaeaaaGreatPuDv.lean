/- What is drawn without faults is valid. No condition. -/
import Derived.Test.YthkdkojfahaeaaaGreatPuDr
import Derived.Test.YthkdkojfahaeaaaGreatPuFe
set_option linter.unusedVariables false
set_option linter.unusedSimpArgs false
namespace Go.Proofs.YthkdkojfahaeaaaGreat.Ev
open Go.Proofs.YthkdkojfahaeaaaGreat.Eng
open Go.RowKit (wrap64)
/-! ### Keys, values -/
theorem odd0 (r : spec_l20Rd) : spec_l20Rd_odd r 0 = some (false, (r, ())) := by rw [spec_l20Rd_odd_eq, cond_dec, if_neg (by omega)]
theorem rd_all {α : Type} {d : α} {P : α → Prop} {l : List α} {i : Int} (h0 : 0 ≤ i) (hi : i < l.length) (h : ∀ x ∈ l, P x) : P (rdAt l i.toNat d) := h _ (rd_mem h0 hi)
theorem bs_app (a b : ByteArray) : bs (a ++ b) = bs a ++ bs b := by simp [bs, ByteArray.data_append]
theorem bs_one {c : Int} (h0 : 0 ≤ c) (h1 : c ≤ 255) : bs (strOfInts [c]) = [c] := by
  simp [bs, strOfInts]; omega
theorem letters_app (a b : List Int) : letters (a ++ b) = (letters a && letters b) := by simp [letters]
theorem key7_v {n : Int} (hn : n ≤ 900000000) : ∀ (k : Nat) (s : ByteArray) (r : spec_l20Rd), k ≤ 2 → Rdr (n - k) r → 1 ≤ s.size + k → s.size + k ≤ 4 → letters (bs s) = true → Tot (spec_l20Key_7 s (k : Int) r) (fun x => keyOk x.1 = true ∧ Rdr n x.2.1)
  | 0, s, r, hk, h, h1, h4, hl => by
    rw [spec_l20Key_7_eq, cond_dec, if_neg (by omega)]
    exact Tot.val ⟨by unfold keyOk; rw [hl, decide_eq_true (p := 1 ≤ s.size ∧ s.size ≤ 4) (by omega)]; rfl, h.up (by omega)⟩
  | k + 1, s, r, hk, h, h1, h4, hl => by
    rw [spec_l20Key_7_eq]
    simp only [cond_dec, if_pos (show (0 : Int) < ((k + 1 : Nat) : Int) by omega), w64 (n := ((k + 1 : Nat) : Int) - 1) (by omega) (by omega)]
    refine (pick_t h (by omega) (by omega)).bind fun x hx => ?_
    have x1 := hx.1.2 (by omega)
    have x0 := hx.1.1
    refine Tot.chk (by rw [sonSize]; simp only [List.length_cons, List.length_nil]; omega) ?_
    rw [show ((k + 1 : Nat) : Int) - 1 = (k : Int) by omega]
    have e : IntKind.u8.wrap (wrap64 (97 + x.1)) = 97 + x.1 := by
      rw [w64 (by omega) (by omega)]
      exact Int.emod_eq_of_lt (by omega) (show 97 + x.1 < 256 by omega)
    have sz : (strOfInts [IntKind.u8.wrap (wrap64 (97 + x.1))]).size = 1 := by rw [sonSize]; rfl
    refine key7_v hn k _ _ (by omega) (hx.2.up (by omega)) ?_ ?_ ?_
    · rw [ByteArray.size_append]; omega
    · rw [ByteArray.size_append]; omega
    · rw [bs_app, letters_app, hl, e, bs_one (by omega) (by omega), letters_cons, decide_eq_true (by omega)]; rfl
theorem key_v {n : Int} {r : spec_l20Rd} (h : Rdr n r) (hn : n ≤ 800000000) : Tot (spec_l20Key r 0) (fun x => keyOk x.1 = true ∧ Rdr (n + 5) x.2.1) := by
  rw [spec_l20Key_eq]
  simp only [cond_dec, odd0, Option.bind_some, cond_false]
  refine (pick_t h (by omega) (by omega)).bind fun y hy => Tot.ite (fun _ => ?_) fun _ => ?_
  · refine (pick_t hy.2 (by omega) (by omega)).bind fun z hz => ?_
    have hl := hz.1.2 (by omega)
    refine Tot.chk hz.1.1 (Tot.chk (by simp; omega) (Tot.val ⟨rd_all (P := fun x => keyOk x = true) hz.1.1 (by simp; omega) ?_, hz.2.up (by omega)⟩))
    intro x hx
    simp only [List.mem_cons, List.not_mem_nil, or_false] at hx
    rcases hx with rfl | rfl | rfl | rfl | rfl <;> rfl
  · refine (pick_t hy.2 (by omega) (by omega)).bind fun z hz => ?_
    have := hz.1.2 (by omega)
    have h0 := hz.1.1
    rw [w64 (n := 1 + z.1) (by omega) (by omega), show 1 + z.1 = ((1 + z.1).toNat : Int) by omega]
    have hs : es.size = 0 := rfl
    exact key7_v (n := n + 5) (by omega) _ es _ (by omega) (hz.2.up (by omega)) (by omega) (by omega) rfl
theorem value_v {n : Int} {r : spec_l20Rd} (h : Rdr n r) (hn : n ≤ 800000000) : Tot (spec_l20Value r 0) (fun x => (0 ≤ x.1 ∧ x.1 ≤ 999) ∧ Rdr (n + 3) x.2.1) := by
  rw [spec_l20Value_eq]
  simp only [cond_dec, odd0, Option.bind_some, cond_false]
  refine (pick_t h (by omega) (by omega)).bind fun y hy => (pick_t hy.2 (by omega) (by omega)).bind fun z hz => ?_
  have h1 := hz.1.2 (by omega)
  have y1 := hy.1.2 (by omega)
  have y0 := hy.1.1
  have hd : Int.tdiv z.1 8 = z.1 / 8 := Int.tdiv_eq_ediv_of_nonneg hz.1.1
  have h0 := hz.1.1
  rw [hd, w64 (n := z.1 / 8) (by omega) (by omega)]
  refine Tot.chk (by omega) (Tot.chk (by simp; omega) (Tot.val ⟨rd_all (P := fun x => 0 ≤ x ∧ x ≤ 999) (by omega) (by simp; omega) ?_, hz.2.up (by omega)⟩))
  intro x hx
  simp only [List.mem_cons, List.not_mem_nil, or_false] at hx
  rcases hx with rfl | rfl <;> omega
/-! ### Intervals -/
theorem keyOk_ne {k : ByteArray} (h : keyOk k = true) : k ≠ es := fun e => by subst e; cases h
theorem ivOk_low {a : ByteArray} (h : keyOk a = true) : ivOk ⟨a, es⟩ = true := by
  unfold ivOk; simp [h]
theorem sLt_es {b : ByteArray} (h : keyOk b = true) : sLt es b = true := by
  have hn := keyOk_ne h
  have e1 : es.toList = [] := by rw [toList_data]; rfl
  unfold sLt
  rw [e1]
  cases e : b.toList with
  | nil => exact absurd ((toList_eq_iff _ _).1 (e.trans e1.symm)) hn
  | cons x l => rfl
theorem ivOk_high {b : ByteArray} (h : keyOk b = true) (hb : b ≠ lit [97]) : ivOk ⟨es, b⟩ = true := by
  unfold ivOk
  have := less_a b h
  have e := sLt_es h
  simp [h, lowOf, ← this, e, keyOk_ne h, hb]
theorem ivOk_both {a b : ByteArray} (ha : keyOk a = true) (hb : keyOk b = true) (h : sLt a b = true) : ivOk ⟨a, b⟩ = true := by
  unfold ivOk lowOf
  simp [ha, hb, h, keyOk_ne ha]
theorem span_v {n : Int} {r : spec_l20Rd} (h : Rdr n r) (hn : n ≤ 500000000) : Tot (spec_l20Span r 0) (fun x => ivOk x.1 = true ∧ Rdr (n + 20) x.2.1) := by
  rw [spec_l20Span_eq]
  simp only [cond_dec, odd0, Option.bind_some, cond_false]
  refine (key_v h (by omega)).bind fun y hy => (key_v hy.2 (by omega)).bind fun z hz => (pick_t hz.2 (by omega) (by omega)).bind fun u hu => ?_
  have fin : Rdr (n + 20) u.2.1 := hu.2.up (by omega)
  have last : ∀ {c d : Bool}, c = sLt y.1 z.1 → d = sLt z.1 y.1 → Tot (bif c then some (impl_Interval.mk y.1 z.1, u.2.1, ()) else bif d then some (impl_Interval.mk z.1 y.1, u.2.1, ()) else some (impl_Interval.mk y.1 es, u.2.1, ())) (fun x => ivOk x.1 = true ∧ Rdr (n + 20) x.2.1) := fun hc hd =>
    Tot.bif (fun e => Tot.val ⟨ivOk_both hy.1 hz.1 (hc ▸ e), fin⟩) fun _ => Tot.bif (fun e => Tot.val ⟨ivOk_both hz.1 hy.1 (hd ▸ e), fin⟩) fun _ => Tot.val ⟨ivOk_low hy.1, fin⟩
  refine Tot.ite (fun _ => Tot.val ⟨rfl, fin⟩) fun _ => Tot.ite (fun _ => Tot.val ⟨ivOk_low hy.1, fin⟩) fun _ => Tot.ite (fun _ => ?_) fun _ => last rfl rfl
  rw [sEq_dec]
  refine Tot.bif (fun e => Tot.val ⟨ivOk_high hz.1 (by simpa using e), fin⟩) fun _ => last rfl rfl
/-! ### Commands, entries -/
theorem tmod_le {a : Int} (h0 : 0 ≤ a) (h1 : a ≤ 999) : Int.tmod a 1000 = a := by rw [Int.tmod_eq_emod_of_nonneg h0]; omega
theorem cmd_v {n : Int} {r : spec_l20Rd} (h : Rdr n r) (hn : n ≤ 700000000) : Tot (spec_l20Cmd r 0) (fun x => cmdOk x.1 = true ∧ Rdr (n + 14) x.2.1) := by
  rw [spec_l20Cmd_eq]
  simp only [cond_dec, odd0, Option.bind_some, cond_false]
  have rest : ∀ {k : ByteArray} {r' : spec_l20Rd}, keyOk k = true → Rdr (n + 8) r' → Tot ((spec_l20Rd_pick r' 8).bind fun v => if v.1 = 0 then some (impl_Command.mk 1 k 0 0, v.2.1, ()) else if v.1 = 1 then some (impl_Command.mk 3 k 0 0, v.2.1, ()) else if v.1 = 2 then (spec_l20Rd_pick v.2.1 5).bind fun a => (spec_l20Rd_pick a.2.1 5).bind fun b => some (impl_Command.mk 4 k b.1 (wrap64 (a.1 - 1)), b.2.1, ()) else (spec_l20Value v.2.1 0).bind fun a => some (impl_Command.mk 2 k (Int.tmod a.1 1000) 0, a.2.1, ())) (fun x => cmdOk x.1 = true ∧ Rdr (n + 14) x.2.1) := by
    intro k r' hk hr
    refine (pick_t hr (by omega) (by omega)).bind fun v hv => Tot.ite (fun _ => Tot.val ⟨?_, hv.2.up (by omega)⟩) fun _ => Tot.ite (fun _ => Tot.val ⟨?_, hv.2.up (by omega)⟩) fun _ => Tot.ite (fun _ => ?_) fun _ => ?_
    · simp [cmdOk, hk]
    · simp [cmdOk, hk]
    · refine (pick_t hv.2 (by omega) (by omega)).bind fun a ha => (pick_t ha.2 (by omega) (by omega)).bind fun b hb => Tot.val ⟨?_, hb.2.up (by omega)⟩
      have a1 := ha.1.2 (by omega)
      have a0 := ha.1.1
      have b1 := hb.1.2 (by omega)
      have b0 := hb.1.1
      rw [w64 (n := a.1 - 1) (by omega) (by omega)]
      simp [cmdOk, hk]; omega
    · refine (value_v hv.2 (by omega)).bind fun a ha => Tot.val ⟨?_, ha.2.up (by omega)⟩
      rw [tmod_le ha.1.1 ha.1.2]
      simp [cmdOk, hk]; omega
  refine (key_v h (by omega)).bind fun y hy => (pick_t hy.2 (by omega) (by omega)).bind fun z hz => Tot.ite (fun _ => ?_) fun _ => rest hy.1 (hz.2.up (by omega))
  refine (pick_t hz.2 (by omega) (by omega)).bind fun u hu => ?_
  have := hu.1.2 (by omega)
  refine Tot.chk hu.1.1 (Tot.chk (by simp; omega) (rest (rd_all (P := fun x => keyOk x = true) hu.1.1 (by simp; omega) ?_) (hu.2.up (by omega))))
  intro x hx
  simp only [List.mem_cons, List.not_mem_nil, or_false] at hx
  rcases hx with rfl | rfl | rfl | rfl <;> rfl
theorem any_v {n : Int} {r : spec_l20Rd} (h : Rdr n r) (hn : n ≤ 600000000) : Tot (spec_l20Any r 0) (fun x => cmdOk x.1 = true ∧ Rdr (n + 24) x.2.1) := by
  rw [spec_l20Any_eq]
  simp only [cond_dec]
  refine (cmd_v h (by omega)).bind fun x hx => (pick_t hx.2 (by omega) (by omega)).bind fun y hy => Tot.ite (fun _ => ?_) fun _ => Tot.val ⟨hx.1, hy.2.up (by omega)⟩
  refine (key_v hy.2 (by omega)).bind fun z hz => (pick_t hz.2 (by omega) (by omega)).bind fun u hu => ?_
  have := hu.1.2 (by omega)
  refine Tot.chk hu.1.1 (Tot.chk (by simp; omega) (Tot.val ⟨rd_all (P := fun x => cmdOk (impl_Command.mk 5 x 0 0) = true) hu.1.1 (by simp; omega) ?_, hu.2.up (by omega)⟩))
  intro x hx
  simp only [List.mem_cons, List.not_mem_nil, or_false] at hx
  rcases hx with rfl | rfl | rfl | rfl
  · rfl
  · rfl
  · rfl
  · simp [cmdOk, hz.1]
/-! ### Sessions, pairs, states -/
theorem sessPut_ok' {l : List impl_Session} (s : impl_Session) (hl : sessOk l = true) : sessOk (sessPut l s).1 = true := by
  cases h : sessItem s with
  | true => exact sessPut_ok hl h
  | false => unfold sessPut; rw [if_neg (by rw [h]; simp)]; rfl
theorem pairPut_ok' {l : List impl_Pair} (k : ByteArray) (v : Int) (hl : pairsOk l = true) : pairsOk (pairPut l k v).1 = true := by
  by_cases h : keyOk k = true ∧ 0 ≤ v ∧ v ≤ 999
  · by_cases hr : pairGet l k ≠ -1 ∨ l.length < 48
    · exact (put_get hl h.1 h.2 hr).2.1
    · rcases pairs_split k l ((pairsOk_iff _).1 hl).2.2 with ⟨A, B, u, rfl, h1, h2⟩ | ⟨A, B, rfl, h1, h2⟩
      · rw [pairPut_hit hl h.1 h.2 h1 h2]; exact pairsOk_set (u := v) hl h.2 h1 h2
      · rw [pairPut_no hl h.1 h.2 h1 h2, if_pos (by omega)]; exact hl
  · unfold pairPut
    rw [if_neg (by intro hh; exact h ⟨hh.2.1, hh.2.2⟩)]; rfl
theorem sessions3_v {n : Int} (hn : n ≤ 400000000) : ∀ (k : Nat) (r : spec_l20Rd) (l : List impl_Session), k ≤ 100 → Rdr (n + 5 * (100 - k)) r → l.length ≤ 5 → sessOk l = true → Tot (spec_l20Sessions_3 0 (k : Int) r l) (fun x => (x.1.length ≤ 5 ∧ sessOk x.1 = true) ∧ Rdr (n + 500) x.2.1)
  | 0, r, l, hk, h, hl, ho => by
    rw [spec_l20Sessions_3_eq]
    simp only [cond_dec, odd0, Option.bind_some, cond_false]
    rw [if_neg (by omega)]
    exact Tot.val ⟨⟨hl, ho⟩, h.up (by omega)⟩
  | k + 1, r, l, hk, h, hl, ho => by
    rw [spec_l20Sessions_3_eq]
    simp only [cond_dec]
    rw [if_pos (by omega), w64 (n := ((k + 1 : Nat) : Int) - 1) (by omega) (by omega), show ((k + 1 : Nat) : Int) - 1 = (k : Int) by omega]
    refine (session_t h (by omega) (by omega)).bind fun x hx => ?_
    rw [spec_SessionPut_f l x.1 (by omega), Option.bind_some]
    exact sessions3_v hn k _ _ (by omega) (hx.up (by omega)) (sessPut_length _ _) (sessPut_ok' _ ho)
theorem sessions_v {n : Int} {r : spec_l20Rd} (h : Rdr n r) (hn : n ≤ 300000000) : Tot (spec_l20Sessions r 0) (fun x => (x.1.length ≤ 5 ∧ sessOk x.1 = true) ∧ Rdr (n + 1101) x.2.1) := by
  rw [spec_l20Sessions_eq]
  refine (pick_t h (by omega) (by omega)).bind fun x hx => ?_
  have := hx.1.2 (by omega)
  have h0 := hx.1.1
  rw [show x.1 = (x.1.toNat : Int) by omega]
  exact (sessions3_v (n := n + 501) (by omega) x.1.toNat _ [] (by omega) (hx.2.up (by omega)) (by simp) rfl).mono fun y hy => ⟨hy.1, hy.2.up (by omega)⟩
theorem pairs13_v {n : Int} {r : spec_l20Rd} {l : List impl_Pair} (h : Rdr n r) (hl : pairsOk l = true) : Tot (spec_l20Pairs_13 0 r l) (fun x => pairsOk x.1 = true ∧ Rdr (n + 2) x.2.1) := by
  rw [spec_l20Pairs_13_eq]
  simp only [cond_dec, odd0, Option.bind_some, cond_false]
  exact Tot.val ⟨hl, h.up (by omega)⟩
theorem pairs9_v {n : Int} {r : spec_l20Rd} (h : Rdr n r) (hn : n ≤ 500000000) : ∀ (j : Nat) (i : Int) (l : List impl_Pair), i + j = 200 → 0 ≤ i → pairsOk l = true → Tot (spec_l20Pairs_9 0 i r l) (fun x => pairsOk x.1 = true ∧ Rdr (n + 2) x.2.1)
  | 0, i, l, hi, h0, hl => by
    rw [spec_l20Pairs_9_eq]
    simp only [cond_dec]
    exact Tot.ite (fun _ => by rw [if_neg (by omega)]; exact pairs13_v h hl) fun _ => pairs13_v h hl
  | j + 1, i, l, hi, h0, hl => by
    rw [spec_l20Pairs_9_eq]
    simp only [cond_dec]
    refine Tot.ite (fun _ => ?_) fun _ => pairs13_v h hl
    rw [if_pos (by omega), w64 (n := i + 1) (by omega) (by omega)]
    refine (KeyAt_t _).bind fun x _ => ?_
    rw [spec_PairPut_f, Option.bind_some]
    exact pairs9_v h hn j _ _ (by omega) (by omega) (pairPut_ok' _ _ hl)
theorem pairs3_v {n : Int} (hn : n ≤ 400000000) : ∀ (k : Nat) (r : spec_l20Rd) (l : List impl_Pair), k ≤ 100 → Rdr (n + 8 * (100 - k)) r → pairsOk l = true → Tot (spec_l20Pairs_3 0 (k : Int) r l) (fun x => pairsOk x.1 = true ∧ Rdr (n + 900) x.2.1)
  | 0, r, l, hk, h, hl => by
    rw [spec_l20Pairs_3_eq]
    simp only [cond_dec]
    rw [if_neg (by omega)]
    refine (pick_t h (by omega) (by omega)).bind fun x hx => Tot.ite (fun _ => ?_) fun _ => ?_
    · exact (pairs9_v hx.2 (by omega) 200 0 l (by omega) (by omega) hl).mono fun y hy => ⟨hy.1, hy.2.up (by omega)⟩
    · exact (pairs13_v hx.2 hl).mono fun y hy => ⟨hy.1, hy.2.up (by omega)⟩
  | k + 1, r, l, hk, h, hl => by
    rw [spec_l20Pairs_3_eq]
    simp only [cond_dec]
    rw [if_pos (by omega), w64 (n := ((k + 1 : Nat) : Int) - 1) (by omega) (by omega), show ((k + 1 : Nat) : Int) - 1 = (k : Int) by omega]
    refine (key_t h (by omega) (by omega)).bind fun x hx => (value_t hx (by omega) (by omega)).bind fun y hy => ?_
    rw [spec_PairPut_f, Option.bind_some]
    exact pairs3_v hn k _ _ (by omega) (hy.up (by omega)) (pairPut_ok' _ _ hl)
theorem pairs_v {n : Int} {r : spec_l20Rd} (h : Rdr n r) (hn : n ≤ 300000000) : Tot (spec_l20Pairs r 0) (fun x => pairsOk x.1 = true ∧ Rdr (n + 1701) x.2.1) := by
  rw [spec_l20Pairs_eq]
  refine (pick_t h (by omega) (by omega)).bind fun x hx => ?_
  have := hx.1.2 (by omega)
  have h0 := hx.1.1
  rw [show x.1 = (x.1.toNat : Int) by omega]
  exact (pairs3_v (n := n + 801) (by omega) x.1.toNat _ [] (by omega) (hx.2.up (by omega)) rfl).mono fun y hy => ⟨hy.1, hy.2.up (by omega)⟩
theorem pairsOk_sub {l m : List impl_Pair} (h : pairsOk l = true) (hs : m.Sublist l) : pairsOk m = true := by
  obtain ⟨a, b, c⟩ := (pairsOk_iff _).1 h
  exact (pairsOk_iff _).2 ⟨Nat.le_trans hs.length_le a, fun y hy => b y (hs.subset hy), c.sublist hs⟩
theorem scan5_v (xs : List impl_Pair) (hx : pairsOk xs = true) (v : impl_Interval) (hv : ivOk v = true) (m : Int) : ∀ (j : Nat) (i : Int) (out : List impl_Pair), i + j = xs.length → 0 ≤ i → out.Sublist (xs.take i.toNat) → (∀ p ∈ out, inIv v p.Key = true) → Tot (spec_PairScan_5 xs m i v out) (fun x => pairsOk x.1 = true ∧ ∀ p ∈ x.1, inIv v p.Key = true)
  | 0, i, out, hi, h0, ho, hin => by
    rw [spec_PairScan_5_eq, cond_dec, if_neg (by omega)]
    exact Tot.val ⟨pairsOk_sub hx (ho.trans (List.take_sublist _ _)), hin⟩
  | j + 1, i, out, hi, h0, ho, hin => by
    have h48 := pairsOk_le hx
    have hol : out.length ≤ i.toNat := Nat.le_trans ho.length_le (by simp; omega)
    rw [spec_PairScan_5_eq]
    simp only [cond_dec]
    rw [if_pos (by omega), w64 (n := i + 1) (by omega) (by omega)]
    refine Tot.ite (fun _ => ?_) fun _ => Tot.val ⟨pairsOk_sub hx (ho.trans (List.take_sublist _ _)), hin⟩
    refine Tot.chk h0 (Tot.chk (by omega) ?_)
    rw [spec_IntervalHas_f, Option.bind_some]
    obtain ⟨y, ys, hd⟩ : ∃ y ys, xs.drop i.toNat = y :: ys := by
      cases e : xs.drop i.toNat with
      | nil => have := drop_nil h0 (by omega) e; omega
      | cons y ys => exact ⟨y, ys, rfl⟩
    obtain ⟨hr, hl, hd'⟩ := rd_drop (d := z_impl_Pair) h0 hd
    have ht : xs.take (i + 1).toNat = xs.take i.toNat ++ [y] := by rw [show (i + 1).toNat = i.toNat + 1 by omega]; exact take_at hd
    refine Tot.bif (fun c => Tot.chk h0 (Tot.chk (by omega) (Tot.ok (ble_row (by simp only [List.length_cons, List.length_nil]; omega) (by omega)) ?_))) fun _ => ?_
    · rw [hr] at c ⊢
      refine scan5_v xs hx v hv m j _ _ (by omega) (by omega) ?_ ?_
      · rw [ht]; exact ho.append (List.Sublist.refl _)
      · intro p hp
        rcases List.mem_append.1 hp with hp | hp
        · exact hin p hp
        · rw [List.mem_singleton.1 hp]
          simp only [Bool.and_eq_true] at c
          exact c.2
    · exact scan5_v xs hx v hv m j _ _ (by omega) (by omega) (by rw [ht]; exact ho.trans (List.sublist_append_left _ _)) hin
theorem PairsIn_v {xs : List impl_Pair} {v : impl_Interval} (hx : pairsOk xs = true) (hv : ivOk v = true) : Tot (spec_PairsIn xs v) (fun x => pairsOk x.1 = true ∧ ∀ p ∈ x.1, inIv v p.Key = true) := by
  rw [spec_PairsIn_eq, spec_PairScan_eq, spec_PairsValid_f, Option.bind_some, spec_IntervalValid_f, Option.bind_some, spec_l1In_f, Option.bind_some, hx, hv]
  exact Tot.bind (scan5_v xs hx v hv 48 xs.length 0 [] (by omega) (by omega) (List.nil_sublist _) fun p hp => by cases hp) fun x hx => Tot.val hx
theorem state10_v {n : Int} {r : spec_l20Rd} {s1 : impl_State} {v : impl_Interval} {a : List impl_Pair} {b : List impl_Session} {se : Bool} {cut : ByteArray} {s3 : List impl_Pair} {s4 : List impl_Session} {p : List impl_Pair} {k : List impl_Session} (h : Rdr n r) (hs : stateOk ⟨v, p, k, se, cut⟩ = true) :
    Tot (spec_l20State_10 0 r s1 (impl_State.mk v a b se cut) s3 s4 p k) (fun x => stateOk x.1 = true ∧ Rdr n x.2.1) := by
  rw [spec_l20State_10_eq]
  simp only [cond_dec, odd0, Option.bind_some, cond_false]
  exact Tot.val ⟨hs, h⟩
set_option maxHeartbeats 1000000 in
theorem state_v {n : Int} {r : spec_l20Rd} (h : Rdr n r) (hn : n ≤ 90000000) : Tot (spec_l20State r 0) (fun x => stateOk x.1 = true ∧ Rdr (n + 6000) x.2.1) := by
  have s4 : ∀ {r : spec_l20Rd} {s1 : impl_State} {v : impl_Interval} {s3 : List impl_Pair} {s4 : List impl_Session}, ivOk v = true → Rdr (n + 25) r → Tot (spec_l20State_4 0 r s1 v s3 s4) (fun x => stateOk x.1 = true ∧ Rdr (n + 6000) x.2.1) := by
    intro r s1 v s3 s4 hv h
    rw [spec_l20State_4_eq]
    simp only [cond_dec]
    refine (pairs_v h (by omega)).bind fun x hx => (PairsIn_v hx.1 hv).bind fun y hy => (sessions_v hx.2 (by omega)).bind fun z hz => (pick_t hz.2 (by omega) (by omega)).bind fun u hu => ?_
    have base : stateOk ⟨v, y.1, z.1, false, es⟩ = true := (stateOk_iff _).2 ⟨hv, hy.1, hz.1.2, hy.2, .inl rfl⟩
    have base2 : stateOk ⟨v, y.1, z.1, true, es⟩ = true := (stateOk_iff _).2 ⟨hv, hy.1, hz.1.2, hy.2, .inl rfl⟩
    refine Tot.ite (fun _ => ?_) fun _ => (state10_v hu.2 base).mono fun a ha => ⟨ha.1, ha.2.up (by omega)⟩
    rw [spec_IntervalCut_f, Option.bind_some]
    refine Tot.bif (fun c => ?_) fun _ => (state10_v hu.2 base2).mono fun a ha => ⟨ha.1, ha.2.up (by omega)⟩
    refine (pick_t hu.2 (by omega) (by omega)).bind fun a ha => Tot.ite (fun _ => (state10_v ha.2 ?_).mono fun a ha => ⟨ha.1, ha.2.up (by omega)⟩) fun _ => (state10_v ha.2 base2).mono fun a ha => ⟨ha.1, ha.2.up (by omega)⟩
    refine (stateOk_iff _).2 ⟨hv, hy.1, hz.1.2, hy.2, .inr ⟨rfl, ?_⟩⟩
    unfold cutR at c
    split at c
    · assumption
    · cases c
  rw [spec_l20State_eq]
  simp only [cond_dec]
  exact (span_v h (by omega)).bind fun x hx => (pick_t hx.2 (by omega) (by omega)).bind fun y hy => Tot.ite (fun _ => s4 rfl (hy.2.up (by omega))) fun _ => s4 hx.1 (hy.2.up (by omega))
end Go.Proofs.YthkdkojfahaeaaaGreat.Ev
