-- Written by a program of this session, in the manner of the kit's print (wip/pp.py): functions and their contracts.
import Derived.Test.YtkejaolfbejokaaPFnExactMasterValidx0
namespace Go.Proofs.Ytkejaolfbejokaa.PFnExactMasterValid
open Go.RowKit Go.Proofs.YtkejaolfbejokaaW.PrintWords Go.Proofs.YtkejaolfbejokaaW.PrintLast Go.Proofs.YtkejaolfbejokaaW.PrintMore
attribute [local go_sem] binOp_leq_str binOp_gtr_str binOp_geq_str max2_int min2_int max_two min_two max_three min_three max_four min_four   -- for this text's walks alone
set_option linter.unusedVariables false
set_option linter.unusedSimpArgs false

/-! ### laws_eqInterval: function 124 -/
def laws_eqInterval.f (a0_0 : ByteArray) (a0_1 : ByteArray) (a1_0 : ByteArray) (a1_1 : ByteArray) : Option (Bool) := if a0_0.toList = a1_0.toList then (if a0_1.toList = a1_1.toList then (some true) else (some false)) else (some false)
set_option maxHeartbeats 8000000 in
set_option maxRecDepth 100000 in
theorem laws_eqInterval.calls (a0_0 : ByteArray) (a0_1 : ByteArray) (a1_0 : ByteArray) (a1_1 : ByteArray) (r : Bool) (w : World) (h : laws_eqInterval.f a0_0 a0_1 a1_0 a1_1 = some r) :
    Calls Try.prog 124 #[.agg #[.string a0_0, .string a0_1], .agg #[.string a1_0, .string a1_1]] w fun e w' => e = .returned (.bool r) ∧ Below w.heap.size w w' := by
  have hu127 := Try.underlying127
  have HB := Aside0.mk (Below.refl w.heap.size w)
  have H : (if a0_0.toList = a1_0.toList then (if a0_1.toList = a1_1.toList then (some true) else (some false)) else (some false)) = some r := h
  clear h
  by_cases c3 : a0_0.toList = a1_0.toList
  · rw [if_pos c3] at H
    have c3b0 : (a0_0.toList == a1_0.toList) = true := beq_iff_eq.mpr c3
    have c3b1 : (a0_0.toList != a1_0.toList) = false := bne_eq_false_iff_eq.mpr c3
    clear c3
    by_cases c4 : a0_1.toList = a1_1.toList
    · rw [if_pos c4] at H
      have c4b0 : (a0_1.toList == a1_1.toList) = true := beq_iff_eq.mpr c4
      have c4b1 : (a0_1.toList != a1_1.toList) = false := bne_eq_false_iff_eq.mpr c4
      clear c4
      obtain rfl := Option.some.inj H
      go_enter Try.func124, Try.ntmps124
      go_wp2_with (first | ((with_reducible refine gate_dst (N := 2) rfl ?_); refine bxe (N := 2) (cs := #[.string a0_0, .string a0_1]) (t := 127) ?_; intro gb245 hg w5 hbox hb; have BK245 := Aside0.mk (hbox); have GW245 := an2 HB hg; have GE245 := an2 HB hg; replace HB := an0 HB hb; clear hb hbox hg) | ((with_reducible refine gate_dst (N := 3) rfl ?_); refine bxe (N := 3) (cs := #[.string a1_0, .string a1_1]) (t := 127) ?_; intro gb246 hg w6 hbox hb; have BK246 := Aside0.mk (hbox); have GW246 := an2 HB hg; have GE246 := an2 HB hg; have NB245_246 := an3 BK245 hg; have NB246_245 := an4 BK245 hg; replace BK245 := an1 BK245 hb; replace HB := an0 HB hb; clear hb hbox hg; have hnb7 := NB245_246.out; have hnc7 := NB246_245.out; obtain ⟨hcz8_0, hcz8_1, hfz8_0, hfz8_1⟩ := cl2 BK245; obtain ⟨hcz9_0, hcz9_1, hfz9_0, hfz9_1⟩ := cl2 BK246))
      go_ret
      exact ⟨fe, bp HB.out⟩
    · rw [if_neg c4] at H
      have c4b0 : (a0_1.toList == a1_1.toList) = false := beq_eq_false_iff_ne.mpr c4
      have c4b1 : (a0_1.toList != a1_1.toList) = true := bne_iff_ne.mpr c4
      obtain rfl := Option.some.inj H
      go_enter Try.func124, Try.ntmps124
      go_wp2_with (first | ((with_reducible refine gate_dst (N := 2) rfl ?_); refine bxe (N := 2) (cs := #[.string a0_0, .string a0_1]) (t := 127) ?_; intro gb245 hg w10 hbox hb; have BK245 := Aside0.mk (hbox); have GW245 := an2 HB hg; have GE245 := an2 HB hg; replace HB := an0 HB hb; clear hb hbox hg) | ((with_reducible refine gate_dst (N := 3) rfl ?_); refine bxe (N := 3) (cs := #[.string a1_0, .string a1_1]) (t := 127) ?_; intro gb246 hg w11 hbox hb; have BK246 := Aside0.mk (hbox); have GW246 := an2 HB hg; have GE246 := an2 HB hg; have NB245_246 := an3 BK245 hg; have NB246_245 := an4 BK245 hg; replace BK245 := an1 BK245 hb; replace HB := an0 HB hb; clear hb hbox hg; have hnb12 := NB245_246.out; have hnc12 := NB246_245.out; obtain ⟨hcz13_0, hcz13_1, hfz13_0, hfz13_1⟩ := cl2 BK245; obtain ⟨hcz14_0, hcz14_1, hfz14_0, hfz14_1⟩ := cl2 BK246))
      go_ret
      exact ⟨fe, bp HB.out⟩
  · rw [if_neg c3] at H
    have c3b0 : (a0_0.toList == a1_0.toList) = false := beq_eq_false_iff_ne.mpr c3
    have c3b1 : (a0_0.toList != a1_0.toList) = true := bne_iff_ne.mpr c3
    obtain rfl := Option.some.inj H
    go_enter Try.func124, Try.ntmps124
    go_wp2_with (first | ((with_reducible refine gate_dst (N := 2) rfl ?_); refine bxe (N := 2) (cs := #[.string a0_0, .string a0_1]) (t := 127) ?_; intro gb245 hg w15 hbox hb; have BK245 := Aside0.mk (hbox); have GW245 := an2 HB hg; have GE245 := an2 HB hg; replace HB := an0 HB hb; clear hb hbox hg) | ((with_reducible refine gate_dst (N := 3) rfl ?_); refine bxe (N := 3) (cs := #[.string a1_0, .string a1_1]) (t := 127) ?_; intro gb246 hg w16 hbox hb; have BK246 := Aside0.mk (hbox); have GW246 := an2 HB hg; have GE246 := an2 HB hg; have NB245_246 := an3 BK245 hg; have NB246_245 := an4 BK245 hg; replace BK245 := an1 BK245 hb; replace HB := an0 HB hb; clear hb hbox hg; have hnb17 := NB245_246.out; have hnc17 := NB246_245.out; obtain ⟨hcz18_0, hcz18_1, hfz18_0, hfz18_1⟩ := cl2 BK245; obtain ⟨hcz19_0, hcz19_1, hfz19_0, hfz19_1⟩ := cl2 BK246))
    go_ret
    exact ⟨fe, bp HB.out⟩

/-! ### laws_eqRoute: function 141 -/
def laws_eqRoute.f (a0_0 : Int) (a0_1 : ByteArray) (a0_2 : ByteArray) (a1_0 : Int) (a1_1 : ByteArray) (a1_2 : ByteArray) : Option (Bool) := if a0_0 = a1_0 then ((laws_eqInterval.f a0_1 a0_2 a1_1 a1_2).bind fun t249 => (if t249 = true then (some true) else (some false))) else (some false)
set_option maxHeartbeats 8000000 in
set_option maxRecDepth 100000 in
theorem laws_eqRoute.calls (a0_0 : Int) (a0_1 : ByteArray) (a0_2 : ByteArray) (a1_0 : Int) (a1_1 : ByteArray) (a1_2 : ByteArray) (r : Bool) (w : World) (h : laws_eqRoute.f a0_0 a0_1 a0_2 a1_0 a1_1 a1_2 = some r) :
    Calls Try.prog 141 #[.agg #[.int .i64 a0_0, .string a0_1, .string a0_2], .agg #[.int .i64 a1_0, .string a1_1, .string a1_2]] w fun e w' => e = .returned (.bool r) ∧ Below w.heap.size w w' := by
  have hu129 := Try.underlying129
  have hu127 := Try.underlying127
  have HB := Aside0.mk (Below.refl w.heap.size w)
  have H : (if a0_0 = a1_0 then ((laws_eqInterval.f a0_1 a0_2 a1_1 a1_2).bind fun t249 => (if t249 = true then (some true) else (some false))) else (some false)) = some r := h
  clear h
  by_cases c3 : a0_0 = a1_0
  · rw [if_pos c3] at H
    have c3b0 : (a0_0 == a1_0) = true := beq_iff_eq.mpr c3
    have c3b1 : (a0_0 != a1_0) = false := bne_eq_false_iff_eq.mpr c3
    clear c3
    replace H := Option.bind_eq_some_iff.mp H
    obtain ⟨t249, A40, H⟩ := H
    replace H : (if t249 = true then (some true) else (some false)) = some r := H
    have A4 := Aside0.mk A40
    clear A40
    by_cases c5 : t249 = true
    · subst c5
      have H1 : (some true) = some r := by rw [if_pos rfl] at H; exact H
      clear H
      have H := H1
      clear H1
      obtain rfl := Option.some.inj H
      go_enter Try.func141, Try.ntmps141
      go_wp2_with (first | ((with_reducible refine gate_dst (N := 2) rfl ?_); refine bxe (N := 2) (cs := #[.int .i64 a0_0, .string a0_1, .string a0_2]) (t := 129) ?_; intro gb247 hg w6 hbox hb; have BK247 := Aside0.mk (hbox); have GW247 := an2 HB hg; have GE247 := an2 HB hg; replace HB := an0 HB hb; clear hb hbox hg) | ((with_reducible refine gate_dst (N := 3) rfl ?_); refine bxe (N := 3) (cs := #[.int .i64 a1_0, .string a1_1, .string a1_2]) (t := 129) ?_; intro gb248 hg w7 hbox hb; have BK248 := Aside0.mk (hbox); have GW248 := an2 HB hg; have GE248 := an2 HB hg; have NB247_248 := an3 BK247 hg; have NB248_247 := an4 BK247 hg; replace BK247 := an1 BK247 hb; replace HB := an0 HB hb; clear hb hbox hg; have hnb8 := NB247_248.out; have hnc8 := NB248_247.out; obtain ⟨hcz9_0, hcz9_1, hcz9_2, hfz9_0, hfz9_1, hfz9_2⟩ := cl3 BK247; obtain ⟨hcz10_0, hcz10_1, hcz10_2, hfz10_0, hfz10_1, hfz10_2⟩ := cl3 BK248) | ((with_reducible refine gate_callee (f := 124) rfl ?_); refine gsl (some 14) rfl Try.func124 #[.agg #[.string a0_1, .string a0_2], .agg #[.string a1_1, .string a1_2]] rfl ?_; (with_reducible refine (laws_eqInterval.calls a0_1 a0_2 a1_1 a1_2 true _ A4.out).mono ?_); rintro e w11 ⟨rfl, hb⟩; refine ⟨_, rfl, ?_⟩; replace BK247 := an1 BK247 hb; replace BK248 := an1 BK248 hb; replace HB := an0 HB hb; (try clear hb); (try clear hb2); (try clear hk); (try clear hi)))
      go_ret
      exact ⟨fe, bp HB.out⟩
    · replace c5 := Bool.eq_false_iff.mpr c5
      subst c5
      have H1 : (some false) = some r := by rw [if_neg (show ¬ (false = true) by decide)] at H; exact H
      clear H
      have H := H1
      clear H1
      obtain rfl := Option.some.inj H
      go_enter Try.func141, Try.ntmps141
      go_wp2_with (first | ((with_reducible refine gate_dst (N := 2) rfl ?_); refine bxe (N := 2) (cs := #[.int .i64 a0_0, .string a0_1, .string a0_2]) (t := 129) ?_; intro gb247 hg w12 hbox hb; have BK247 := Aside0.mk (hbox); have GW247 := an2 HB hg; have GE247 := an2 HB hg; replace HB := an0 HB hb; clear hb hbox hg) | ((with_reducible refine gate_dst (N := 3) rfl ?_); refine bxe (N := 3) (cs := #[.int .i64 a1_0, .string a1_1, .string a1_2]) (t := 129) ?_; intro gb248 hg w13 hbox hb; have BK248 := Aside0.mk (hbox); have GW248 := an2 HB hg; have GE248 := an2 HB hg; have NB247_248 := an3 BK247 hg; have NB248_247 := an4 BK247 hg; replace BK247 := an1 BK247 hb; replace HB := an0 HB hb; clear hb hbox hg; have hnb14 := NB247_248.out; have hnc14 := NB248_247.out; obtain ⟨hcz15_0, hcz15_1, hcz15_2, hfz15_0, hfz15_1, hfz15_2⟩ := cl3 BK247; obtain ⟨hcz16_0, hcz16_1, hcz16_2, hfz16_0, hfz16_1, hfz16_2⟩ := cl3 BK248) | ((with_reducible refine gate_callee (f := 124) rfl ?_); refine gsl (some 14) rfl Try.func124 #[.agg #[.string a0_1, .string a0_2], .agg #[.string a1_1, .string a1_2]] rfl ?_; (with_reducible refine (laws_eqInterval.calls a0_1 a0_2 a1_1 a1_2 false _ A4.out).mono ?_); rintro e w17 ⟨rfl, hb⟩; refine ⟨_, rfl, ?_⟩; replace BK247 := an1 BK247 hb; replace BK248 := an1 BK248 hb; replace HB := an0 HB hb; (try clear hb); (try clear hb2); (try clear hk); (try clear hi)))
      go_ret
      exact ⟨fe, bp HB.out⟩
  · rw [if_neg c3] at H
    have c3b0 : (a0_0 == a1_0) = false := beq_eq_false_iff_ne.mpr c3
    have c3b1 : (a0_0 != a1_0) = true := bne_iff_ne.mpr c3
    obtain rfl := Option.some.inj H
    go_enter Try.func141, Try.ntmps141
    go_wp2_with (first | ((with_reducible refine gate_dst (N := 2) rfl ?_); refine bxe (N := 2) (cs := #[.int .i64 a0_0, .string a0_1, .string a0_2]) (t := 129) ?_; intro gb247 hg w18 hbox hb; have BK247 := Aside0.mk (hbox); have GW247 := an2 HB hg; have GE247 := an2 HB hg; replace HB := an0 HB hb; clear hb hbox hg) | ((with_reducible refine gate_dst (N := 3) rfl ?_); refine bxe (N := 3) (cs := #[.int .i64 a1_0, .string a1_1, .string a1_2]) (t := 129) ?_; intro gb248 hg w19 hbox hb; have BK248 := Aside0.mk (hbox); have GW248 := an2 HB hg; have GE248 := an2 HB hg; have NB247_248 := an3 BK247 hg; have NB248_247 := an4 BK247 hg; replace BK247 := an1 BK247 hb; replace HB := an0 HB hb; clear hb hbox hg; have hnb20 := NB247_248.out; have hnc20 := NB248_247.out; obtain ⟨hcz21_0, hcz21_1, hcz21_2, hfz21_0, hfz21_1, hfz21_2⟩ := cl3 BK247; obtain ⟨hcz22_0, hcz22_1, hcz22_2, hfz22_0, hfz22_1, hfz22_2⟩ := cl3 BK248))
    go_ret
    exact ⟨fe, bp HB.out⟩

/-! ### laws_eqRouteS: function 98 -/
def laws_eqRouteS.l0 : Nat → List (S129) → List (S129) → Int → Option (Bool)
  | 0, _, _, _ => none
  | k + 1, x0, x1, x5 => if x5 < (x0.length : Int) then (if 0 ≤ x5 then (if x5 < (x1.length : Int) then ((laws_eqRoute.f ((rd_T129 x0 x5).f0) ((rd_T129 x0 x5).f1.f0) ((rd_T129 x0 x5).f1.f1) ((rd_T129 x1 x5).f0) ((rd_T129 x1 x5).f1.f0) ((rd_T129 x1 x5).f1.f1)).bind fun t252 => (if t252 = true then (laws_eqRouteS.l0 k x0 x1 (wrap64 (x5 + 1))) else (some false))) else (none)) else (none)) else (some true)
def laws_eqRouteS.f (k : Nat) (l0 : List (S129)) (l1 : List (S129)) : Option (Bool) := if (l0.length : Int) = (l1.length : Int) then (laws_eqRouteS.l0 k l0 l1 0) else (some false)
theorem laws_eqRouteS.mono_l : ∀ k, (∀ y0 y1 y2, LeO (laws_eqRouteS.l0 k y0 y1 y2) (laws_eqRouteS.l0 (k + 1) y0 y1 y2))
  | 0 => fun _ _ _ r h => by simp [laws_eqRouteS.l0] at h
  | k + 1 => by
    have ih0 := laws_eqRouteS.mono_l k
    · intro y0 y1 y2
      unfold laws_eqRouteS.l0
      repeat' first
      | (with_reducible exact ih0 _ _ _)
      | (with_reducible exact LeO.refl _)
      | (with_reducible exact LeO.none _)
      | (with_reducible refine LeO.ite ?_ ?_)
      | (with_reducible refine LeO.bind ?_ (fun _ => ?_))
      | exact ih0 _ _ _
      | exact LeO.none _
      | refine LeO.ite ?_ ?_
      | refine LeO.bind ?_ (fun _ => ?_)
theorem laws_eqRouteS.mono : ∀ a0 a1 k, LeO (laws_eqRouteS.f k a0 a1) (laws_eqRouteS.f (k + 1) a0 a1) := by
  intro a0 a1 k
  have ih0 := laws_eqRouteS.mono_l k
  unfold laws_eqRouteS.f
  repeat' first
      | (with_reducible exact ih0 _ _ _)
      | (with_reducible exact LeO.refl _)
      | (with_reducible exact LeO.none _)
      | (with_reducible refine LeO.ite ?_ ?_)
      | (with_reducible refine LeO.bind ?_ (fun _ => ?_))
      | exact ih0 _ _ _
      | exact LeO.none _
      | refine LeO.ite ?_ ?_
      | refine LeO.bind ?_ (fun _ => ?_)
def laws_eqRouteS.T6 : Bool × List (List Nat × List Nat) := (true, [([], []), ([], []), ([0, 1], [0, 1]), ([2], [2]), ([], []), ([], []), ([4, 5], [4, 5]), ([6], [6]), ([3, 7], [3, 7]), ([8], [8])])
def laws_eqRouteS.B6 : List Nat := [0, 0, 3, 7, 0, 0, 48, 112, 255, 511]
theorem laws_eqRouteS.tab6 : rtab .any (opsOf Try.f98 6) = laws_eqRouteS.T6 := by kernel_rfl
theorem laws_eqRouteS.bits6 : waitsOk laws_eqRouteS.T6.2 laws_eqRouteS.B6 = true := by kernel_rfl
set_option maxHeartbeats 8000000 in
set_option maxRecDepth 100000 in
theorem laws_eqRouteS.calls (k : Nat) (A0 : Option Addr) (c0 : Nat) (l0 : List (S129)) (A1 : Option Addr) (c1 : Nat) (l1 : List (S129)) (r : Bool) (w : World) (hr0 : Kd.C k129 w A0 l0.length l0) (hc0 : l0.length ≤ c0) (hr1 : Kd.C k129 w A1 l1.length l1) (hc1 : l1.length ≤ c1) (h : laws_eqRouteS.f k l0 l1 = some r) :
    Calls Try.prog 98 #[.slice A0 l0.length c0, .slice A1 l1.length c1] w fun e w' => e = .returned (.bool r) ∧ Below w.heap.size w w' := by
  have hu129 := Try.underlying129
  have HR0 := Aside0.mk hr0
  have HC0 := Aside0.mk hc0
  clear hr0 hc0
  have HR1 := Aside0.mk hr1
  have HC1 := Aside0.mk hc1
  clear hr1 hc1
  have HB := Aside0.mk (Below.refl w.heap.size w)
  have H : (if (l0.length : Int) = (l1.length : Int) then (laws_eqRouteS.l0 k l0 l1 0) else (some false)) = some r := h
  clear h
  by_cases c3 : (l0.length : Int) = (l1.length : Int)
  · rw [if_pos c3] at H
    have c3b0 : ((l0.length : Int) == (l1.length : Int)) = true := beq_iff_eq.mpr c3
    have c3b1 : ((l0.length : Int) != (l1.length : Int)) = false := bne_eq_false_iff_eq.mpr c3
    have c3b2 : (l0.length == l1.length) = true := by first | simpa using c3 | (simp at c3 ⊢; omega)
    clear c3
    have H' := Aside0.mk H
    clear H
    go_enter Try.func98, Try.ntmps98
    go_wp2
    go_loopg [5] k (fun kq v5 w' => ∃ (x5_1 : Int), v5 = .int .i64 x5_1 ∧ Aside0 (laws_eqRouteS.l0 kq l0 l1 x5_1 = some r) ∧ Aside0 (kq ≤ k) ∧ Aside0 (Below w.heap.size w w'))
    case atStart => exact ⟨(0), (by first | rfl | (simp; done) | (simp [*]; done) | (simp [bne_nil_, beq_nil_]; done)), H', ⟨Nat.le_refl _⟩, ⟨bp HB.out⟩⟩
    case round =>
      clear H'
      try clear c1
      try clear p2
      try clear c3
      try clear c3b0
      try clear c3b1
      try clear c3b2
      obtain ⟨x5_1, rfl, HA, HK1, HB⟩ := hrel
      cases gk with
      | zero => exact absurd HA.out (by simp [laws_eqRouteS.l0])
      | succ k1 =>
        have H := HA.out
        clear HA
        simp only [laws_eqRouteS.l0] at H
        by_cases c4 : x5_1 < (l0.length : Int)
        · rw [if_pos c4] at H
          have c4b0 : decide (x5_1 < (l0.length : Int)) = true := decide_eq_true c4
          clear c4
          by_cases c5 : 0 ≤ x5_1
          · rw [if_pos c5] at H
            have c5b0 : decide (0 ≤ x5_1) = true := decide_eq_true c5
            clear c5
            by_cases c6 : x5_1 < (l1.length : Int)
            · rw [if_pos c6] at H
              have c6b0 : decide (x5_1 < (l1.length : Int)) = true := decide_eq_true c6
              clear c6
              replace H := Option.bind_eq_some_iff.mp H
              obtain ⟨t252, A70, H⟩ := H
              replace H : (if t252 = true then (laws_eqRouteS.l0 k1 l0 l1 (wrap64 (x5_1 + 1))) else (some false)) = some r := H
              have A7 := Aside0.mk A70
              clear A70
              by_cases c8 : t252 = true
              · subst c8
                have H1 : (laws_eqRouteS.l0 k1 l0 l1 (wrap64 (x5_1 + 1))) = some r := by rw [if_pos rfl] at H; exact H
                clear H
                have H := H1
                clear H1
                have H' := Aside0.mk H
                clear H
                try go_wp2
                have n0_ := Aside0.mk (below_drew1 HB.out)
                clear HB
                have HB := n0_
                clear n0_
                have p250 : 0 ≤ (x5_1 : Int) := of_decide_eq_true (by first | (with_reducible assumption) | assumption)
                have q250 : x5_1 < (l0.length : Int) := of_decide_eq_true (by first | (with_reducible assumption) | assumption)
                obtain ⟨ad250, e250, hx250_0, hx250_1, hx250_2⟩ := at_T129 HR0.out x5_1 p250 q250
                have hw250_2 := hx250_2
                have hw250_1 := hx250_1
                have hw250_0 := hx250_0
                cases e250
                replace hx250_0 := (HB.out.cell (World.block_lt_of_cell? w _ hx250_0)).trans hx250_0
                replace hx250_1 := (HB.out.cell (World.block_lt_of_cell? w _ hx250_1)).trans hx250_1
                replace hx250_2 := (HB.out.cell (World.block_lt_of_cell? w _ hx250_2)).trans hx250_2
                replace p250 := eq_true p250
                replace q250 := eq_true q250
                have p251 : 0 ≤ (x5_1 : Int) := of_decide_eq_true (by first | (with_reducible assumption) | assumption)
                have q251 : x5_1 < (l1.length : Int) := of_decide_eq_true (by first | (with_reducible assumption) | assumption)
                obtain ⟨ad251, e251, hx251_0, hx251_1, hx251_2⟩ := at_T129 HR1.out x5_1 p251 q251
                have hw251_2 := hx251_2
                have hw251_1 := hx251_1
                have hw251_0 := hx251_0
                cases e251
                replace hx251_0 := (HB.out.cell (World.block_lt_of_cell? w _ hx251_0)).trans hx251_0
                replace hx251_1 := (HB.out.cell (World.block_lt_of_cell? w _ hx251_1)).trans hx251_1
                replace hx251_2 := (HB.out.cell (World.block_lt_of_cell? w _ hx251_2)).trans hx251_2
                replace p251 := eq_true p251
                replace q251 := eq_true q251
                refine start_ (n := 10) (S := fun w' => w'.cell? (ad250.add ((x5_1).toNat * 3)) = some (.int .i64 ((rd_T129 l0 x5_1).f0)) ∧ w'.cell? ⟨(ad250.add ((x5_1).toNat * 3)).block, (ad250.add ((x5_1).toNat * 3)).off + 1, none⟩ = some (.string ((rd_T129 l0 x5_1).f1.f0)) ∧ w'.cell? ⟨(ad250.add ((x5_1).toNat * 3)).block, (ad250.add ((x5_1).toNat * 3)).off + 2, none⟩ = some (.string ((rd_T129 l0 x5_1).f1.f1)) ∧ w'.cell? (ad251.add ((x5_1).toNat * 3)) = some (.int .i64 ((rd_T129 l1 x5_1).f0)) ∧ w'.cell? ⟨(ad251.add ((x5_1).toNat * 3)).block, (ad251.add ((x5_1).toNat * 3)).off + 1, none⟩ = some (.string ((rd_T129 l1 x5_1).f1.f0)) ∧ w'.cell? ⟨(ad251.add ((x5_1).toNat * 3)).block, (ad251.add ((x5_1).toNat * 3)).off + 2, none⟩ = some (.string ((rd_T129 l1 x5_1).f1.f1))) (ds := []) #[false, false, false, false, false, false, false, false, false, false] (by kernel_rfl) rfl rfl ⟨((HB.out.cell (World.block_lt_of_cell? w _ hw250_0)).trans hw250_0), ((HB.out.cell (World.block_lt_of_cell? w _ hw250_1)).trans hw250_1), ((HB.out.cell (World.block_lt_of_cell? w _ hw250_2)).trans hw250_2), ((HB.out.cell (World.block_lt_of_cell? w _ hw251_0)).trans hw251_0), ((HB.out.cell (World.block_lt_of_cell? w _ hw251_1)).trans hw251_1), ((HB.out.cell (World.block_lt_of_cell? w _ hw251_2)).trans hw251_2)⟩ (fun hHeld => ?_); refine with_tabW laws_eqRouteS.tab6 laws_eqRouteS.bits6 (fun HT_ HW_ => ?_)
                generalize wr.drew = w9 at HB hx250_0 hx250_1 hx250_2 hx251_0 hx251_1 hx251_2 hHeld ⊢
                refine pure_ (i := 0) (N := some 17) (v := ?_) (a' := ?_) #[true, false, false, false, false, false, false, false, false, false] rfl rfl (any_of HT_.out (by kernel_rfl)) (fun _ _ _ h => h) (Or.inl ⟨by rfl, ?_⟩) ?_ ?_
                rotate_left
                · intro w'
                  go_simp
                  with_reducible rfl
                rotate_left
                · simp only [Act.put, List.setIfInBounds_toArray, List.set_cons_zero, List.set_cons_succ, i64_w, i32_w]
                  rfl
                refine pure_ (i := 1) (N := some 18) (v := ?_) (a' := ?_) #[true, true, false, false, false, false, false, false, false, false] rfl rfl (any_of HT_.out (by kernel_rfl)) (fun _ _ _ h => h) (Or.inl ⟨by rfl, ?_⟩) ?_ ?_
                rotate_left
                · intro w'
                  go_simp
                  with_reducible rfl
                rotate_left
                · simp only [Act.put, List.setIfInBounds_toArray, List.set_cons_zero, List.set_cons_succ, i64_w, i32_w]
                  rfl
                refine pure_ (i := 2) (N := some 19) (v := ?_) (a' := ?_) #[true, true, true, false, false, false, false, false, false, false] rfl rfl (any_of HT_.out (by kernel_rfl)) (fun _ _ _ h => h) (Or.inl ⟨by rfl, ?_⟩) ?_ ?_
                rotate_left
                · intro w'
                  go_simp
                  with_reducible rfl
                rotate_left
                · simp only [Act.put, List.setIfInBounds_toArray, List.set_cons_zero, List.set_cons_succ, i64_w, i32_w]
                  rfl
                refine pure_ (i := 4) (N := some 21) (v := ?_) (a' := ?_) #[true, true, true, false, true, false, false, false, false, false] rfl rfl (any_of HT_.out (by kernel_rfl)) (fun _ _ _ h => h) (Or.inl ⟨by rfl, ?_⟩) ?_ ?_
                rotate_left
                · intro w'
                  go_simp
                  with_reducible rfl
                rotate_left
                · simp only [Act.put, List.setIfInBounds_toArray, List.set_cons_zero, List.set_cons_succ, i64_w, i32_w]
                  rfl
                refine pure_ (i := 5) (N := some 22) (v := ?_) (a' := ?_) #[true, true, true, false, true, true, false, false, false, false] rfl rfl (any_of HT_.out (by kernel_rfl)) (fun _ _ _ h => h) (Or.inl ⟨by rfl, ?_⟩) ?_ ?_
                rotate_left
                · intro w'
                  go_simp
                  with_reducible rfl
                rotate_left
                · simp only [Act.put, List.setIfInBounds_toArray, List.set_cons_zero, List.set_cons_succ, i64_w, i32_w]
                  rfl
                refine pure_ (i := 6) (N := some 23) (v := ?_) (a' := ?_) #[true, true, true, false, true, true, true, false, false, false] rfl rfl (any_of HT_.out (by kernel_rfl)) (fun _ _ _ h => h) (Or.inl ⟨by rfl, ?_⟩) ?_ ?_
                rotate_left
                · intro w'
                  go_simp
                  with_reducible rfl
                rotate_left
                · simp only [Act.put, List.setIfInBounds_toArray, List.set_cons_zero, List.set_cons_succ, i64_w, i32_w]
                  rfl
                refine take_ (i := 3) (N := some 20) (v := ?_) (a' := ?_) #[true, true, true, true, true, true, true, false, false, false] rfl rfl (take_ofW HT_.out HW_.out (by kernel_rfl)) (fun _ _ _ h => h) (Or.inl ⟨by rfl, ?_⟩) hHeld ?_ ?_
                rotate_left
                · rintro w' ⟨s0, s1, s2, s3, s4, s5⟩
                  go_simp
                  with_reducible rfl
                rotate_left
                · simp only [Act.put, List.setIfInBounds_toArray, List.set_cons_zero, List.set_cons_succ, i64_w, i32_w]
                  rfl
                refine take_ (i := 7) (N := some 24) (v := ?_) (a' := ?_) #[true, true, true, true, true, true, true, true, false, false] rfl rfl (take_ofW HT_.out HW_.out (by kernel_rfl)) (fun _ _ _ h => h) (Or.inl ⟨by rfl, ?_⟩) hHeld ?_ ?_
                rotate_left
                · rintro w' ⟨s0, s1, s2, s3, s4, s5⟩
                  go_simp
                  with_reducible rfl
                rotate_left
                · simp only [Act.put, List.setIfInBounds_toArray, List.set_cons_zero, List.set_cons_succ, i64_w, i32_w]
                  rfl
                refine one_ (i := 8) (N := some 25) #[true, true, true, true, true, true, true, true, true, false] rfl rfl (one_of HT_.out (by kernel_rfl)) (by decide) (fun K hK => ?_)
                refine goes_ Try.func141 (by kernel_rfl) rfl #[.agg #[.int .i64 ((rd_T129 l0 x5_1).f0), .string ((rd_T129 l0 x5_1).f1.f0), .string ((rd_T129 l0 x5_1).f1.f1)], .agg #[.int .i64 ((rd_T129 l1 x5_1).f0), .string ((rd_T129 l1 x5_1).f1.f0), .string ((rd_T129 l1 x5_1).f1.f1)]] (by rfl) rfl rfl (by (try simp only [List.map_toArray, List.map_cons, List.map_nil]); first | done | rfl | (simp only [List.length_drop, List.length_take]; rfl)) ?_
                with_reducible refine (laws_eqRoute.calls ((rd_T129 l0 x5_1).f0) ((rd_T129 l0 x5_1).f1.f0) ((rd_T129 l0 x5_1).f1.f1) ((rd_T129 l1 x5_1).f0) ((rd_T129 l1 x5_1).f1.f0) ((rd_T129 l1 x5_1).f1.f1) true _ A7.out).mono ?_
                rintro e w10 ⟨rfl, hb⟩
                refine ⟨_, rfl, ?_⟩
                have n0_ := an0 HB hb
                clear HB
                have HB := n0_
                clear n0_
                (try clear hb)
                (try clear hb2)
                (try clear hk)
                (try clear hi)
                refine hK.out _ _ ⟨((HB.out.cell (World.block_lt_of_cell? w _ hw250_0)).trans hw250_0), ((HB.out.cell (World.block_lt_of_cell? w _ hw250_1)).trans hw250_1), ((HB.out.cell (World.block_lt_of_cell? w _ hw250_2)).trans hw250_2), ((HB.out.cell (World.block_lt_of_cell? w _ hw251_0)).trans hw251_0), ((HB.out.cell (World.block_lt_of_cell? w _ hw251_1)).trans hw251_1), ((HB.out.cell (World.block_lt_of_cell? w _ hw251_2)).trans hw251_2)⟩ (fun hHeld => ?_)
                clear hK K
                refine norm_ (a' := ?_) ?_ ?_
                rotate_left
                · show Act.put _ (some 25) _ = _
                  simp only [Act.put, List.setIfInBounds_toArray, List.set_cons_zero, List.set_cons_succ, i64_w, i32_w]
                  rfl
                refine pure_ (i := 9) (N := some 26) (v := ?_) (a' := ?_) #[true, true, true, true, true, true, true, true, true, true] rfl rfl (any_of HT_.out (by kernel_rfl)) (fun _ _ _ h => h) (Or.inl ⟨by rfl, ?_⟩) ?_ ?_
                rotate_left
                · intro w'
                  go_simp
                  with_reducible rfl
                rotate_left
                · simp only [Act.put, List.setIfInBounds_toArray, List.set_cons_zero, List.set_cons_succ, i64_w, i32_w]
                  rfl
                refine done_ (done_of HT_.out (by kernel_rfl)) ?_
                try go_wp2
                go_roundg k1
                case measure => have := HK1.out; omega
                case rel => exact ⟨(wrap64 (x5_1 + 1)), (by first | rfl | (simp; done) | (simp [*]; done) | (simp [bne_nil_, beq_nil_]; done)), H', ⟨by have := HK1.out; omega⟩, ⟨bp HB.out⟩⟩
              · replace c8 := Bool.eq_false_iff.mpr c8
                subst c8
                have H1 : (some false) = some r := by rw [if_neg (show ¬ (false = true) by decide)] at H; exact H
                clear H
                have H := H1
                clear H1
                obtain rfl := Option.some.inj H
                try go_wp2
                have n0_ := Aside0.mk (below_drew1 HB.out)
                clear HB
                have HB := n0_
                clear n0_
                have p250 : 0 ≤ (x5_1 : Int) := of_decide_eq_true (by first | (with_reducible assumption) | assumption)
                have q250 : x5_1 < (l0.length : Int) := of_decide_eq_true (by first | (with_reducible assumption) | assumption)
                obtain ⟨ad250, e250, hx250_0, hx250_1, hx250_2⟩ := at_T129 HR0.out x5_1 p250 q250
                have hw250_2 := hx250_2
                have hw250_1 := hx250_1
                have hw250_0 := hx250_0
                cases e250
                replace hx250_0 := (HB.out.cell (World.block_lt_of_cell? w _ hx250_0)).trans hx250_0
                replace hx250_1 := (HB.out.cell (World.block_lt_of_cell? w _ hx250_1)).trans hx250_1
                replace hx250_2 := (HB.out.cell (World.block_lt_of_cell? w _ hx250_2)).trans hx250_2
                replace p250 := eq_true p250
                replace q250 := eq_true q250
                have p251 : 0 ≤ (x5_1 : Int) := of_decide_eq_true (by first | (with_reducible assumption) | assumption)
                have q251 : x5_1 < (l1.length : Int) := of_decide_eq_true (by first | (with_reducible assumption) | assumption)
                obtain ⟨ad251, e251, hx251_0, hx251_1, hx251_2⟩ := at_T129 HR1.out x5_1 p251 q251
                have hw251_2 := hx251_2
                have hw251_1 := hx251_1
                have hw251_0 := hx251_0
                cases e251
                replace hx251_0 := (HB.out.cell (World.block_lt_of_cell? w _ hx251_0)).trans hx251_0
                replace hx251_1 := (HB.out.cell (World.block_lt_of_cell? w _ hx251_1)).trans hx251_1
                replace hx251_2 := (HB.out.cell (World.block_lt_of_cell? w _ hx251_2)).trans hx251_2
                replace p251 := eq_true p251
                replace q251 := eq_true q251
                refine start_ (n := 10) (S := fun w' => w'.cell? (ad250.add ((x5_1).toNat * 3)) = some (.int .i64 ((rd_T129 l0 x5_1).f0)) ∧ w'.cell? ⟨(ad250.add ((x5_1).toNat * 3)).block, (ad250.add ((x5_1).toNat * 3)).off + 1, none⟩ = some (.string ((rd_T129 l0 x5_1).f1.f0)) ∧ w'.cell? ⟨(ad250.add ((x5_1).toNat * 3)).block, (ad250.add ((x5_1).toNat * 3)).off + 2, none⟩ = some (.string ((rd_T129 l0 x5_1).f1.f1)) ∧ w'.cell? (ad251.add ((x5_1).toNat * 3)) = some (.int .i64 ((rd_T129 l1 x5_1).f0)) ∧ w'.cell? ⟨(ad251.add ((x5_1).toNat * 3)).block, (ad251.add ((x5_1).toNat * 3)).off + 1, none⟩ = some (.string ((rd_T129 l1 x5_1).f1.f0)) ∧ w'.cell? ⟨(ad251.add ((x5_1).toNat * 3)).block, (ad251.add ((x5_1).toNat * 3)).off + 2, none⟩ = some (.string ((rd_T129 l1 x5_1).f1.f1))) (ds := []) #[false, false, false, false, false, false, false, false, false, false] (by kernel_rfl) rfl rfl ⟨((HB.out.cell (World.block_lt_of_cell? w _ hw250_0)).trans hw250_0), ((HB.out.cell (World.block_lt_of_cell? w _ hw250_1)).trans hw250_1), ((HB.out.cell (World.block_lt_of_cell? w _ hw250_2)).trans hw250_2), ((HB.out.cell (World.block_lt_of_cell? w _ hw251_0)).trans hw251_0), ((HB.out.cell (World.block_lt_of_cell? w _ hw251_1)).trans hw251_1), ((HB.out.cell (World.block_lt_of_cell? w _ hw251_2)).trans hw251_2)⟩ (fun hHeld => ?_); refine with_tabW laws_eqRouteS.tab6 laws_eqRouteS.bits6 (fun HT_ HW_ => ?_)
                generalize wr.drew = w11 at HB hx250_0 hx250_1 hx250_2 hx251_0 hx251_1 hx251_2 hHeld ⊢
                refine pure_ (i := 0) (N := some 17) (v := ?_) (a' := ?_) #[true, false, false, false, false, false, false, false, false, false] rfl rfl (any_of HT_.out (by kernel_rfl)) (fun _ _ _ h => h) (Or.inl ⟨by rfl, ?_⟩) ?_ ?_
                rotate_left
                · intro w'
                  go_simp
                  with_reducible rfl
                rotate_left
                · simp only [Act.put, List.setIfInBounds_toArray, List.set_cons_zero, List.set_cons_succ, i64_w, i32_w]
                  rfl
                refine pure_ (i := 1) (N := some 18) (v := ?_) (a' := ?_) #[true, true, false, false, false, false, false, false, false, false] rfl rfl (any_of HT_.out (by kernel_rfl)) (fun _ _ _ h => h) (Or.inl ⟨by rfl, ?_⟩) ?_ ?_
                rotate_left
                · intro w'
                  go_simp
                  with_reducible rfl
                rotate_left
                · simp only [Act.put, List.setIfInBounds_toArray, List.set_cons_zero, List.set_cons_succ, i64_w, i32_w]
                  rfl
                refine pure_ (i := 2) (N := some 19) (v := ?_) (a' := ?_) #[true, true, true, false, false, false, false, false, false, false] rfl rfl (any_of HT_.out (by kernel_rfl)) (fun _ _ _ h => h) (Or.inl ⟨by rfl, ?_⟩) ?_ ?_
                rotate_left
                · intro w'
                  go_simp
                  with_reducible rfl
                rotate_left
                · simp only [Act.put, List.setIfInBounds_toArray, List.set_cons_zero, List.set_cons_succ, i64_w, i32_w]
                  rfl
                refine pure_ (i := 4) (N := some 21) (v := ?_) (a' := ?_) #[true, true, true, false, true, false, false, false, false, false] rfl rfl (any_of HT_.out (by kernel_rfl)) (fun _ _ _ h => h) (Or.inl ⟨by rfl, ?_⟩) ?_ ?_
                rotate_left
                · intro w'
                  go_simp
                  with_reducible rfl
                rotate_left
                · simp only [Act.put, List.setIfInBounds_toArray, List.set_cons_zero, List.set_cons_succ, i64_w, i32_w]
                  rfl
                refine pure_ (i := 5) (N := some 22) (v := ?_) (a' := ?_) #[true, true, true, false, true, true, false, false, false, false] rfl rfl (any_of HT_.out (by kernel_rfl)) (fun _ _ _ h => h) (Or.inl ⟨by rfl, ?_⟩) ?_ ?_
                rotate_left
                · intro w'
                  go_simp
                  with_reducible rfl
                rotate_left
                · simp only [Act.put, List.setIfInBounds_toArray, List.set_cons_zero, List.set_cons_succ, i64_w, i32_w]
                  rfl
                refine pure_ (i := 6) (N := some 23) (v := ?_) (a' := ?_) #[true, true, true, false, true, true, true, false, false, false] rfl rfl (any_of HT_.out (by kernel_rfl)) (fun _ _ _ h => h) (Or.inl ⟨by rfl, ?_⟩) ?_ ?_
                rotate_left
                · intro w'
                  go_simp
                  with_reducible rfl
                rotate_left
                · simp only [Act.put, List.setIfInBounds_toArray, List.set_cons_zero, List.set_cons_succ, i64_w, i32_w]
                  rfl
                refine take_ (i := 3) (N := some 20) (v := ?_) (a' := ?_) #[true, true, true, true, true, true, true, false, false, false] rfl rfl (take_ofW HT_.out HW_.out (by kernel_rfl)) (fun _ _ _ h => h) (Or.inl ⟨by rfl, ?_⟩) hHeld ?_ ?_
                rotate_left
                · rintro w' ⟨s0, s1, s2, s3, s4, s5⟩
                  go_simp
                  with_reducible rfl
                rotate_left
                · simp only [Act.put, List.setIfInBounds_toArray, List.set_cons_zero, List.set_cons_succ, i64_w, i32_w]
                  rfl
                refine take_ (i := 7) (N := some 24) (v := ?_) (a' := ?_) #[true, true, true, true, true, true, true, true, false, false] rfl rfl (take_ofW HT_.out HW_.out (by kernel_rfl)) (fun _ _ _ h => h) (Or.inl ⟨by rfl, ?_⟩) hHeld ?_ ?_
                rotate_left
                · rintro w' ⟨s0, s1, s2, s3, s4, s5⟩
                  go_simp
                  with_reducible rfl
                rotate_left
                · simp only [Act.put, List.setIfInBounds_toArray, List.set_cons_zero, List.set_cons_succ, i64_w, i32_w]
                  rfl
                refine one_ (i := 8) (N := some 25) #[true, true, true, true, true, true, true, true, true, false] rfl rfl (one_of HT_.out (by kernel_rfl)) (by decide) (fun K hK => ?_)
                refine goes_ Try.func141 (by kernel_rfl) rfl #[.agg #[.int .i64 ((rd_T129 l0 x5_1).f0), .string ((rd_T129 l0 x5_1).f1.f0), .string ((rd_T129 l0 x5_1).f1.f1)], .agg #[.int .i64 ((rd_T129 l1 x5_1).f0), .string ((rd_T129 l1 x5_1).f1.f0), .string ((rd_T129 l1 x5_1).f1.f1)]] (by rfl) rfl rfl (by (try simp only [List.map_toArray, List.map_cons, List.map_nil]); first | done | rfl | (simp only [List.length_drop, List.length_take]; rfl)) ?_
                with_reducible refine (laws_eqRoute.calls ((rd_T129 l0 x5_1).f0) ((rd_T129 l0 x5_1).f1.f0) ((rd_T129 l0 x5_1).f1.f1) ((rd_T129 l1 x5_1).f0) ((rd_T129 l1 x5_1).f1.f0) ((rd_T129 l1 x5_1).f1.f1) false _ A7.out).mono ?_
                rintro e w12 ⟨rfl, hb⟩
                refine ⟨_, rfl, ?_⟩
                have n0_ := an0 HB hb
                clear HB
                have HB := n0_
                clear n0_
                (try clear hb)
                (try clear hb2)
                (try clear hk)
                (try clear hi)
                refine hK.out _ _ ⟨((HB.out.cell (World.block_lt_of_cell? w _ hw250_0)).trans hw250_0), ((HB.out.cell (World.block_lt_of_cell? w _ hw250_1)).trans hw250_1), ((HB.out.cell (World.block_lt_of_cell? w _ hw250_2)).trans hw250_2), ((HB.out.cell (World.block_lt_of_cell? w _ hw251_0)).trans hw251_0), ((HB.out.cell (World.block_lt_of_cell? w _ hw251_1)).trans hw251_1), ((HB.out.cell (World.block_lt_of_cell? w _ hw251_2)).trans hw251_2)⟩ (fun hHeld => ?_)
                clear hK K
                refine norm_ (a' := ?_) ?_ ?_
                rotate_left
                · show Act.put _ (some 25) _ = _
                  simp only [Act.put, List.setIfInBounds_toArray, List.set_cons_zero, List.set_cons_succ, i64_w, i32_w]
                  rfl
                refine pure_ (i := 9) (N := some 26) (v := ?_) (a' := ?_) #[true, true, true, true, true, true, true, true, true, true] rfl rfl (any_of HT_.out (by kernel_rfl)) (fun _ _ _ h => h) (Or.inl ⟨by rfl, ?_⟩) ?_ ?_
                rotate_left
                · intro w'
                  go_simp
                  with_reducible rfl
                rotate_left
                · simp only [Act.put, List.setIfInBounds_toArray, List.set_cons_zero, List.set_cons_succ, i64_w, i32_w]
                  rfl
                refine done_ (done_of HT_.out (by kernel_rfl)) ?_
                try go_wp2
                go_ret
                exact ⟨fe, bp HB.out⟩
            · rw [if_neg c6] at H
              exact absurd H (by simp)
          · rw [if_neg c5] at H
            exact absurd H (by simp)
        · rw [if_neg c4] at H
          have c4b0 : decide (x5_1 < (l0.length : Int)) = false := decide_eq_false c4
          clear c4
          obtain rfl := Option.some.inj H
          go_wp2
          go_ret
          exact ⟨fe, bp HB.out⟩
  · rw [if_neg c3] at H
    have c3b0 : ((l0.length : Int) == (l1.length : Int)) = false := beq_eq_false_iff_ne.mpr c3
    have c3b1 : ((l0.length : Int) != (l1.length : Int)) = true := bne_iff_ne.mpr c3
    have c3b2 : (l0.length == l1.length) = false := by first | simpa using c3 | (simp at c3 ⊢; omega)
    obtain rfl := Option.some.inj H
    go_enter Try.func98, Try.ntmps98
    go_wp2
    go_ret
    exact ⟨fe, bp HB.out⟩

/-! ### laws_eqPlan: function 99 -/
def laws_eqPlan.f (a0_0 : Int) (a0_1 : Int) (a0_2 : Int) (a0_3 : ByteArray) (a0_4 : Int) (a0_5 : Int) (a0_6 : Int) (a1_0 : Int) (a1_1 : Int) (a1_2 : Int) (a1_3 : ByteArray) (a1_4 : Int) (a1_5 : Int) (a1_6 : Int) : Option (Bool) := if a0_0 = a1_0 then (if a0_1 = a1_1 then (if a0_2 = a1_2 then (if a0_3.toList = a1_3.toList then (if a0_4 = a1_4 then (if a0_5 = a1_5 then (if a0_6 = a1_6 then (some true) else (some false)) else (some false)) else (some false)) else (some false)) else (some false)) else (some false)) else (some false)
set_option maxHeartbeats 8000000 in
set_option maxRecDepth 100000 in
theorem laws_eqPlan.calls (a0_0 : Int) (a0_1 : Int) (a0_2 : Int) (a0_3 : ByteArray) (a0_4 : Int) (a0_5 : Int) (a0_6 : Int) (a1_0 : Int) (a1_1 : Int) (a1_2 : Int) (a1_3 : ByteArray) (a1_4 : Int) (a1_5 : Int) (a1_6 : Int) (r : Bool) (w : World) (h : laws_eqPlan.f a0_0 a0_1 a0_2 a0_3 a0_4 a0_5 a0_6 a1_0 a1_1 a1_2 a1_3 a1_4 a1_5 a1_6 = some r) :
    Calls Try.prog 99 #[.agg #[.int .i64 a0_0, .int .i64 a0_1, .int .i64 a0_2, .string a0_3, .int .i64 a0_4, .int .i64 a0_5, .int .i64 a0_6], .agg #[.int .i64 a1_0, .int .i64 a1_1, .int .i64 a1_2, .string a1_3, .int .i64 a1_4, .int .i64 a1_5, .int .i64 a1_6]] w fun e w' => e = .returned (.bool r) ∧ Below w.heap.size w w' := by
  have hu64 := Try.underlying64
  have HB := Aside0.mk (Below.refl w.heap.size w)
  have H : (if a0_0 = a1_0 then (if a0_1 = a1_1 then (if a0_2 = a1_2 then (if a0_3.toList = a1_3.toList then (if a0_4 = a1_4 then (if a0_5 = a1_5 then (if a0_6 = a1_6 then (some true) else (some false)) else (some false)) else (some false)) else (some false)) else (some false)) else (some false)) else (some false)) = some r := h
  clear h
  by_cases c3 : a0_0 = a1_0
  · rw [if_pos c3] at H
    have c3b0 : (a0_0 == a1_0) = true := beq_iff_eq.mpr c3
    have c3b1 : (a0_0 != a1_0) = false := bne_eq_false_iff_eq.mpr c3
    clear c3
    by_cases c4 : a0_1 = a1_1
    · rw [if_pos c4] at H
      have c4b0 : (a0_1 == a1_1) = true := beq_iff_eq.mpr c4
      have c4b1 : (a0_1 != a1_1) = false := bne_eq_false_iff_eq.mpr c4
      clear c4
      by_cases c5 : a0_2 = a1_2
      · rw [if_pos c5] at H
        have c5b0 : (a0_2 == a1_2) = true := beq_iff_eq.mpr c5
        have c5b1 : (a0_2 != a1_2) = false := bne_eq_false_iff_eq.mpr c5
        clear c5
        by_cases c6 : a0_3.toList = a1_3.toList
        · rw [if_pos c6] at H
          have c6b0 : (a0_3.toList == a1_3.toList) = true := beq_iff_eq.mpr c6
          have c6b1 : (a0_3.toList != a1_3.toList) = false := bne_eq_false_iff_eq.mpr c6
          clear c6
          by_cases c7 : a0_4 = a1_4
          · rw [if_pos c7] at H
            have c7b0 : (a0_4 == a1_4) = true := beq_iff_eq.mpr c7
            have c7b1 : (a0_4 != a1_4) = false := bne_eq_false_iff_eq.mpr c7
            clear c7
            by_cases c8 : a0_5 = a1_5
            · rw [if_pos c8] at H
              have c8b0 : (a0_5 == a1_5) = true := beq_iff_eq.mpr c8
              have c8b1 : (a0_5 != a1_5) = false := bne_eq_false_iff_eq.mpr c8
              clear c8
              by_cases c9 : a0_6 = a1_6
              · rw [if_pos c9] at H
                have c9b0 : (a0_6 == a1_6) = true := beq_iff_eq.mpr c9
                have c9b1 : (a0_6 != a1_6) = false := bne_eq_false_iff_eq.mpr c9
                clear c9
                obtain rfl := Option.some.inj H
                go_enter Try.func99, Try.ntmps99
                go_wp2_with (first | ((with_reducible refine gate_dst (N := 2) rfl ?_); refine bxe (N := 2) (cs := #[.int .i64 a0_0, .int .i64 a0_1, .int .i64 a0_2, .string a0_3, .int .i64 a0_4, .int .i64 a0_5, .int .i64 a0_6]) (t := 64) ?_; intro gb253 hg w10 hbox hb; have BK253 := Aside0.mk (hbox); have GW253 := an2 HB hg; have GE253 := an2 HB hg; replace HB := an0 HB hb; clear hb hbox hg) | ((with_reducible refine gate_dst (N := 3) rfl ?_); refine bxe (N := 3) (cs := #[.int .i64 a1_0, .int .i64 a1_1, .int .i64 a1_2, .string a1_3, .int .i64 a1_4, .int .i64 a1_5, .int .i64 a1_6]) (t := 64) ?_; intro gb254 hg w11 hbox hb; have BK254 := Aside0.mk (hbox); have GW254 := an2 HB hg; have GE254 := an2 HB hg; have NB253_254 := an3 BK253 hg; have NB254_253 := an4 BK253 hg; replace BK253 := an1 BK253 hb; replace HB := an0 HB hb; clear hb hbox hg; have hnb12 := NB253_254.out; have hnc12 := NB254_253.out; obtain ⟨hcz13_0, hcz13_1, hcz13_2, hcz13_3, hcz13_4, hcz13_5, hcz13_6, hfz13_0, hfz13_1, hfz13_2, hfz13_3, hfz13_4, hfz13_5, hfz13_6⟩ := cl7 BK253; obtain ⟨hcz14_0, hcz14_1, hcz14_2, hcz14_3, hcz14_4, hcz14_5, hcz14_6, hfz14_0, hfz14_1, hfz14_2, hfz14_3, hfz14_4, hfz14_5, hfz14_6⟩ := cl7 BK254))
                go_ret
                exact ⟨fe, bp HB.out⟩
              · rw [if_neg c9] at H
                have c9b0 : (a0_6 == a1_6) = false := beq_eq_false_iff_ne.mpr c9
                have c9b1 : (a0_6 != a1_6) = true := bne_iff_ne.mpr c9
                obtain rfl := Option.some.inj H
                go_enter Try.func99, Try.ntmps99
                go_wp2_with (first | ((with_reducible refine gate_dst (N := 2) rfl ?_); refine bxe (N := 2) (cs := #[.int .i64 a0_0, .int .i64 a0_1, .int .i64 a0_2, .string a0_3, .int .i64 a0_4, .int .i64 a0_5, .int .i64 a0_6]) (t := 64) ?_; intro gb253 hg w15 hbox hb; have BK253 := Aside0.mk (hbox); have GW253 := an2 HB hg; have GE253 := an2 HB hg; replace HB := an0 HB hb; clear hb hbox hg) | ((with_reducible refine gate_dst (N := 3) rfl ?_); refine bxe (N := 3) (cs := #[.int .i64 a1_0, .int .i64 a1_1, .int .i64 a1_2, .string a1_3, .int .i64 a1_4, .int .i64 a1_5, .int .i64 a1_6]) (t := 64) ?_; intro gb254 hg w16 hbox hb; have BK254 := Aside0.mk (hbox); have GW254 := an2 HB hg; have GE254 := an2 HB hg; have NB253_254 := an3 BK253 hg; have NB254_253 := an4 BK253 hg; replace BK253 := an1 BK253 hb; replace HB := an0 HB hb; clear hb hbox hg; have hnb17 := NB253_254.out; have hnc17 := NB254_253.out; obtain ⟨hcz18_0, hcz18_1, hcz18_2, hcz18_3, hcz18_4, hcz18_5, hcz18_6, hfz18_0, hfz18_1, hfz18_2, hfz18_3, hfz18_4, hfz18_5, hfz18_6⟩ := cl7 BK253; obtain ⟨hcz19_0, hcz19_1, hcz19_2, hcz19_3, hcz19_4, hcz19_5, hcz19_6, hfz19_0, hfz19_1, hfz19_2, hfz19_3, hfz19_4, hfz19_5, hfz19_6⟩ := cl7 BK254))
                go_ret
                exact ⟨fe, bp HB.out⟩
            · rw [if_neg c8] at H
              have c8b0 : (a0_5 == a1_5) = false := beq_eq_false_iff_ne.mpr c8
              have c8b1 : (a0_5 != a1_5) = true := bne_iff_ne.mpr c8
              obtain rfl := Option.some.inj H
              go_enter Try.func99, Try.ntmps99
              go_wp2_with (first | ((with_reducible refine gate_dst (N := 2) rfl ?_); refine bxe (N := 2) (cs := #[.int .i64 a0_0, .int .i64 a0_1, .int .i64 a0_2, .string a0_3, .int .i64 a0_4, .int .i64 a0_5, .int .i64 a0_6]) (t := 64) ?_; intro gb253 hg w20 hbox hb; have BK253 := Aside0.mk (hbox); have GW253 := an2 HB hg; have GE253 := an2 HB hg; replace HB := an0 HB hb; clear hb hbox hg) | ((with_reducible refine gate_dst (N := 3) rfl ?_); refine bxe (N := 3) (cs := #[.int .i64 a1_0, .int .i64 a1_1, .int .i64 a1_2, .string a1_3, .int .i64 a1_4, .int .i64 a1_5, .int .i64 a1_6]) (t := 64) ?_; intro gb254 hg w21 hbox hb; have BK254 := Aside0.mk (hbox); have GW254 := an2 HB hg; have GE254 := an2 HB hg; have NB253_254 := an3 BK253 hg; have NB254_253 := an4 BK253 hg; replace BK253 := an1 BK253 hb; replace HB := an0 HB hb; clear hb hbox hg; have hnb22 := NB253_254.out; have hnc22 := NB254_253.out; obtain ⟨hcz23_0, hcz23_1, hcz23_2, hcz23_3, hcz23_4, hcz23_5, hcz23_6, hfz23_0, hfz23_1, hfz23_2, hfz23_3, hfz23_4, hfz23_5, hfz23_6⟩ := cl7 BK253; obtain ⟨hcz24_0, hcz24_1, hcz24_2, hcz24_3, hcz24_4, hcz24_5, hcz24_6, hfz24_0, hfz24_1, hfz24_2, hfz24_3, hfz24_4, hfz24_5, hfz24_6⟩ := cl7 BK254))
              go_ret
              exact ⟨fe, bp HB.out⟩
          · rw [if_neg c7] at H
            have c7b0 : (a0_4 == a1_4) = false := beq_eq_false_iff_ne.mpr c7
            have c7b1 : (a0_4 != a1_4) = true := bne_iff_ne.mpr c7
            obtain rfl := Option.some.inj H
            go_enter Try.func99, Try.ntmps99
            go_wp2_with (first | ((with_reducible refine gate_dst (N := 2) rfl ?_); refine bxe (N := 2) (cs := #[.int .i64 a0_0, .int .i64 a0_1, .int .i64 a0_2, .string a0_3, .int .i64 a0_4, .int .i64 a0_5, .int .i64 a0_6]) (t := 64) ?_; intro gb253 hg w25 hbox hb; have BK253 := Aside0.mk (hbox); have GW253 := an2 HB hg; have GE253 := an2 HB hg; replace HB := an0 HB hb; clear hb hbox hg) | ((with_reducible refine gate_dst (N := 3) rfl ?_); refine bxe (N := 3) (cs := #[.int .i64 a1_0, .int .i64 a1_1, .int .i64 a1_2, .string a1_3, .int .i64 a1_4, .int .i64 a1_5, .int .i64 a1_6]) (t := 64) ?_; intro gb254 hg w26 hbox hb; have BK254 := Aside0.mk (hbox); have GW254 := an2 HB hg; have GE254 := an2 HB hg; have NB253_254 := an3 BK253 hg; have NB254_253 := an4 BK253 hg; replace BK253 := an1 BK253 hb; replace HB := an0 HB hb; clear hb hbox hg; have hnb27 := NB253_254.out; have hnc27 := NB254_253.out; obtain ⟨hcz28_0, hcz28_1, hcz28_2, hcz28_3, hcz28_4, hcz28_5, hcz28_6, hfz28_0, hfz28_1, hfz28_2, hfz28_3, hfz28_4, hfz28_5, hfz28_6⟩ := cl7 BK253; obtain ⟨hcz29_0, hcz29_1, hcz29_2, hcz29_3, hcz29_4, hcz29_5, hcz29_6, hfz29_0, hfz29_1, hfz29_2, hfz29_3, hfz29_4, hfz29_5, hfz29_6⟩ := cl7 BK254))
            go_ret
            exact ⟨fe, bp HB.out⟩
        · rw [if_neg c6] at H
          have c6b0 : (a0_3.toList == a1_3.toList) = false := beq_eq_false_iff_ne.mpr c6
          have c6b1 : (a0_3.toList != a1_3.toList) = true := bne_iff_ne.mpr c6
          obtain rfl := Option.some.inj H
          go_enter Try.func99, Try.ntmps99
          go_wp2_with (first | ((with_reducible refine gate_dst (N := 2) rfl ?_); refine bxe (N := 2) (cs := #[.int .i64 a0_0, .int .i64 a0_1, .int .i64 a0_2, .string a0_3, .int .i64 a0_4, .int .i64 a0_5, .int .i64 a0_6]) (t := 64) ?_; intro gb253 hg w30 hbox hb; have BK253 := Aside0.mk (hbox); have GW253 := an2 HB hg; have GE253 := an2 HB hg; replace HB := an0 HB hb; clear hb hbox hg) | ((with_reducible refine gate_dst (N := 3) rfl ?_); refine bxe (N := 3) (cs := #[.int .i64 a1_0, .int .i64 a1_1, .int .i64 a1_2, .string a1_3, .int .i64 a1_4, .int .i64 a1_5, .int .i64 a1_6]) (t := 64) ?_; intro gb254 hg w31 hbox hb; have BK254 := Aside0.mk (hbox); have GW254 := an2 HB hg; have GE254 := an2 HB hg; have NB253_254 := an3 BK253 hg; have NB254_253 := an4 BK253 hg; replace BK253 := an1 BK253 hb; replace HB := an0 HB hb; clear hb hbox hg; have hnb32 := NB253_254.out; have hnc32 := NB254_253.out; obtain ⟨hcz33_0, hcz33_1, hcz33_2, hcz33_3, hcz33_4, hcz33_5, hcz33_6, hfz33_0, hfz33_1, hfz33_2, hfz33_3, hfz33_4, hfz33_5, hfz33_6⟩ := cl7 BK253; obtain ⟨hcz34_0, hcz34_1, hcz34_2, hcz34_3, hcz34_4, hcz34_5, hcz34_6, hfz34_0, hfz34_1, hfz34_2, hfz34_3, hfz34_4, hfz34_5, hfz34_6⟩ := cl7 BK254))
          go_ret
          exact ⟨fe, bp HB.out⟩
      · rw [if_neg c5] at H
        have c5b0 : (a0_2 == a1_2) = false := beq_eq_false_iff_ne.mpr c5
        have c5b1 : (a0_2 != a1_2) = true := bne_iff_ne.mpr c5
        obtain rfl := Option.some.inj H
        go_enter Try.func99, Try.ntmps99
        go_wp2_with (first | ((with_reducible refine gate_dst (N := 2) rfl ?_); refine bxe (N := 2) (cs := #[.int .i64 a0_0, .int .i64 a0_1, .int .i64 a0_2, .string a0_3, .int .i64 a0_4, .int .i64 a0_5, .int .i64 a0_6]) (t := 64) ?_; intro gb253 hg w35 hbox hb; have BK253 := Aside0.mk (hbox); have GW253 := an2 HB hg; have GE253 := an2 HB hg; replace HB := an0 HB hb; clear hb hbox hg) | ((with_reducible refine gate_dst (N := 3) rfl ?_); refine bxe (N := 3) (cs := #[.int .i64 a1_0, .int .i64 a1_1, .int .i64 a1_2, .string a1_3, .int .i64 a1_4, .int .i64 a1_5, .int .i64 a1_6]) (t := 64) ?_; intro gb254 hg w36 hbox hb; have BK254 := Aside0.mk (hbox); have GW254 := an2 HB hg; have GE254 := an2 HB hg; have NB253_254 := an3 BK253 hg; have NB254_253 := an4 BK253 hg; replace BK253 := an1 BK253 hb; replace HB := an0 HB hb; clear hb hbox hg; have hnb37 := NB253_254.out; have hnc37 := NB254_253.out; obtain ⟨hcz38_0, hcz38_1, hcz38_2, hcz38_3, hcz38_4, hcz38_5, hcz38_6, hfz38_0, hfz38_1, hfz38_2, hfz38_3, hfz38_4, hfz38_5, hfz38_6⟩ := cl7 BK253; obtain ⟨hcz39_0, hcz39_1, hcz39_2, hcz39_3, hcz39_4, hcz39_5, hcz39_6, hfz39_0, hfz39_1, hfz39_2, hfz39_3, hfz39_4, hfz39_5, hfz39_6⟩ := cl7 BK254))
        go_ret
        exact ⟨fe, bp HB.out⟩
    · rw [if_neg c4] at H
      have c4b0 : (a0_1 == a1_1) = false := beq_eq_false_iff_ne.mpr c4
      have c4b1 : (a0_1 != a1_1) = true := bne_iff_ne.mpr c4
      obtain rfl := Option.some.inj H
      go_enter Try.func99, Try.ntmps99
      go_wp2_with (first | ((with_reducible refine gate_dst (N := 2) rfl ?_); refine bxe (N := 2) (cs := #[.int .i64 a0_0, .int .i64 a0_1, .int .i64 a0_2, .string a0_3, .int .i64 a0_4, .int .i64 a0_5, .int .i64 a0_6]) (t := 64) ?_; intro gb253 hg w40 hbox hb; have BK253 := Aside0.mk (hbox); have GW253 := an2 HB hg; have GE253 := an2 HB hg; replace HB := an0 HB hb; clear hb hbox hg) | ((with_reducible refine gate_dst (N := 3) rfl ?_); refine bxe (N := 3) (cs := #[.int .i64 a1_0, .int .i64 a1_1, .int .i64 a1_2, .string a1_3, .int .i64 a1_4, .int .i64 a1_5, .int .i64 a1_6]) (t := 64) ?_; intro gb254 hg w41 hbox hb; have BK254 := Aside0.mk (hbox); have GW254 := an2 HB hg; have GE254 := an2 HB hg; have NB253_254 := an3 BK253 hg; have NB254_253 := an4 BK253 hg; replace BK253 := an1 BK253 hb; replace HB := an0 HB hb; clear hb hbox hg; have hnb42 := NB253_254.out; have hnc42 := NB254_253.out; obtain ⟨hcz43_0, hcz43_1, hcz43_2, hcz43_3, hcz43_4, hcz43_5, hcz43_6, hfz43_0, hfz43_1, hfz43_2, hfz43_3, hfz43_4, hfz43_5, hfz43_6⟩ := cl7 BK253; obtain ⟨hcz44_0, hcz44_1, hcz44_2, hcz44_3, hcz44_4, hcz44_5, hcz44_6, hfz44_0, hfz44_1, hfz44_2, hfz44_3, hfz44_4, hfz44_5, hfz44_6⟩ := cl7 BK254))
      go_ret
      exact ⟨fe, bp HB.out⟩
  · rw [if_neg c3] at H
    have c3b0 : (a0_0 == a1_0) = false := beq_eq_false_iff_ne.mpr c3
    have c3b1 : (a0_0 != a1_0) = true := bne_iff_ne.mpr c3
    obtain rfl := Option.some.inj H
    go_enter Try.func99, Try.ntmps99
    go_wp2_with (first | ((with_reducible refine gate_dst (N := 2) rfl ?_); refine bxe (N := 2) (cs := #[.int .i64 a0_0, .int .i64 a0_1, .int .i64 a0_2, .string a0_3, .int .i64 a0_4, .int .i64 a0_5, .int .i64 a0_6]) (t := 64) ?_; intro gb253 hg w45 hbox hb; have BK253 := Aside0.mk (hbox); have GW253 := an2 HB hg; have GE253 := an2 HB hg; replace HB := an0 HB hb; clear hb hbox hg) | ((with_reducible refine gate_dst (N := 3) rfl ?_); refine bxe (N := 3) (cs := #[.int .i64 a1_0, .int .i64 a1_1, .int .i64 a1_2, .string a1_3, .int .i64 a1_4, .int .i64 a1_5, .int .i64 a1_6]) (t := 64) ?_; intro gb254 hg w46 hbox hb; have BK254 := Aside0.mk (hbox); have GW254 := an2 HB hg; have GE254 := an2 HB hg; have NB253_254 := an3 BK253 hg; have NB254_253 := an4 BK253 hg; replace BK253 := an1 BK253 hb; replace HB := an0 HB hb; clear hb hbox hg; have hnb47 := NB253_254.out; have hnc47 := NB254_253.out; obtain ⟨hcz48_0, hcz48_1, hcz48_2, hcz48_3, hcz48_4, hcz48_5, hcz48_6, hfz48_0, hfz48_1, hfz48_2, hfz48_3, hfz48_4, hfz48_5, hfz48_6⟩ := cl7 BK253; obtain ⟨hcz49_0, hcz49_1, hcz49_2, hcz49_3, hcz49_4, hcz49_5, hcz49_6, hfz49_0, hfz49_1, hfz49_2, hfz49_3, hfz49_4, hfz49_5, hfz49_6⟩ := cl7 BK254))
    go_ret
    exact ⟨fe, bp HB.out⟩

/-! ### laws_eqMaster: function 45 -/
def laws_eqMaster.f (k : Nat) (l0_0 : List (S129)) (a0_1 : Int) (a0_2 : Int) (a0_3 : Int) (a0_4 : Int) (a0_5 : ByteArray) (a0_6 : Int) (a0_7 : Int) (a0_8 : Int) (a0_9 : Int) (l1_0 : List (S129)) (a1_1 : Int) (a1_2 : Int) (a1_3 : Int) (a1_4 : Int) (a1_5 : ByteArray) (a1_6 : Int) (a1_7 : Int) (a1_8 : Int) (a1_9 : Int) : Option (Bool) := (laws_eqRouteS.f k l0_0 l1_0).bind fun t257 => (if t257 = true then (if a0_1 = a1_1 then ((laws_eqPlan.f a0_2 a0_3 a0_4 a0_5 a0_6 a0_7 a0_8 a1_2 a1_3 a1_4 a1_5 a1_6 a1_7 a1_8).bind fun t258 => (if t258 = true then (if a0_9 = a1_9 then (some true) else (some false)) else (some false))) else (some false)) else (some false))
theorem laws_eqMaster.mono : ∀ a0 a1 a2 a3 a4 a5 a6 a7 a8 a9 a10 a11 a12 a13 a14 a15 a16 a17 a18 a19 k, LeO (laws_eqMaster.f k a0 a1 a2 a3 a4 a5 a6 a7 a8 a9 a10 a11 a12 a13 a14 a15 a16 a17 a18 a19) (laws_eqMaster.f (k + 1) a0 a1 a2 a3 a4 a5 a6 a7 a8 a9 a10 a11 a12 a13 a14 a15 a16 a17 a18 a19) := by
  intro a0 a1 a2 a3 a4 a5 a6 a7 a8 a9 a10 a11 a12 a13 a14 a15 a16 a17 a18 a19 k
  unfold laws_eqMaster.f
  repeat' first
      | (with_reducible exact laws_eqRouteS.mono _ _ _)
      | (with_reducible exact LeO.refl _)
      | (with_reducible exact LeO.none _)
      | (with_reducible refine LeO.ite ?_ ?_)
      | (with_reducible refine LeO.bind ?_ (fun _ => ?_))
      | exact laws_eqRouteS.mono _ _ _
      | exact LeO.none _
      | refine LeO.ite ?_ ?_
      | refine LeO.bind ?_ (fun _ => ?_)
set_option maxHeartbeats 8000000 in
set_option maxRecDepth 100000 in
theorem laws_eqMaster.calls (k : Nat) (A0_0 : Option Addr) (c0_0 : Nat) (l0_0 : List (S129)) (a0_1 : Int) (a0_2 : Int) (a0_3 : Int) (a0_4 : Int) (a0_5 : ByteArray) (a0_6 : Int) (a0_7 : Int) (a0_8 : Int) (a0_9 : Int) (A1_0 : Option Addr) (c1_0 : Nat) (l1_0 : List (S129)) (a1_1 : Int) (a1_2 : Int) (a1_3 : Int) (a1_4 : Int) (a1_5 : ByteArray) (a1_6 : Int) (a1_7 : Int) (a1_8 : Int) (a1_9 : Int) (r : Bool) (w : World) (hr0_0 : Kd.C k129 w A0_0 l0_0.length l0_0) (hc0_0 : l0_0.length ≤ c0_0) (hr1_0 : Kd.C k129 w A1_0 l1_0.length l1_0) (hc1_0 : l1_0.length ≤ c1_0) (h : laws_eqMaster.f k l0_0 a0_1 a0_2 a0_3 a0_4 a0_5 a0_6 a0_7 a0_8 a0_9 l1_0 a1_1 a1_2 a1_3 a1_4 a1_5 a1_6 a1_7 a1_8 a1_9 = some r) :
    Calls Try.prog 45 #[.agg #[.slice A0_0 l0_0.length c0_0, .int .i64 a0_1, .int .i64 a0_2, .int .i64 a0_3, .int .i64 a0_4, .string a0_5, .int .i64 a0_6, .int .i64 a0_7, .int .i64 a0_8, .int .i64 a0_9], .agg #[.slice A1_0 l1_0.length c1_0, .int .i64 a1_1, .int .i64 a1_2, .int .i64 a1_3, .int .i64 a1_4, .string a1_5, .int .i64 a1_6, .int .i64 a1_7, .int .i64 a1_8, .int .i64 a1_9]] w fun e w' => e = .returned (.bool r) ∧ Below w.heap.size w w' := by
  have hu66 := Try.underlying66
  have hu64 := Try.underlying64
  have HR0_0 := Aside0.mk hr0_0
  have HC0_0 := Aside0.mk hc0_0
  clear hr0_0 hc0_0
  have HR1_0 := Aside0.mk hr1_0
  have HC1_0 := Aside0.mk hc1_0
  clear hr1_0 hc1_0
  have HB := Aside0.mk (Below.refl w.heap.size w)
  have H : ((laws_eqRouteS.f k l0_0 l1_0).bind fun t257 => (if t257 = true then (if a0_1 = a1_1 then ((laws_eqPlan.f a0_2 a0_3 a0_4 a0_5 a0_6 a0_7 a0_8 a1_2 a1_3 a1_4 a1_5 a1_6 a1_7 a1_8).bind fun t258 => (if t258 = true then (if a0_9 = a1_9 then (some true) else (some false)) else (some false))) else (some false)) else (some false))) = some r := h
  clear h
  replace H := Option.bind_eq_some_iff.mp H
  obtain ⟨t257, A30, H⟩ := H
  replace H : (if t257 = true then (if a0_1 = a1_1 then ((laws_eqPlan.f a0_2 a0_3 a0_4 a0_5 a0_6 a0_7 a0_8 a1_2 a1_3 a1_4 a1_5 a1_6 a1_7 a1_8).bind fun t258 => (if t258 = true then (if a0_9 = a1_9 then (some true) else (some false)) else (some false))) else (some false)) else (some false)) = some r := H
  have A3 := Aside0.mk A30
  clear A30
  by_cases c4 : t257 = true
  · subst c4
    have H1 : (if a0_1 = a1_1 then ((laws_eqPlan.f a0_2 a0_3 a0_4 a0_5 a0_6 a0_7 a0_8 a1_2 a1_3 a1_4 a1_5 a1_6 a1_7 a1_8).bind fun t258 => (if t258 = true then (if a0_9 = a1_9 then (some true) else (some false)) else (some false))) else (some false)) = some r := by rw [if_pos rfl] at H; exact H
    clear H
    have H := H1
    clear H1
    by_cases c5 : a0_1 = a1_1
    · rw [if_pos c5] at H
      have c5b0 : (a0_1 == a1_1) = true := beq_iff_eq.mpr c5
      have c5b1 : (a0_1 != a1_1) = false := bne_eq_false_iff_eq.mpr c5
      clear c5
      replace H := Option.bind_eq_some_iff.mp H
      obtain ⟨t258, A60, H⟩ := H
      replace H : (if t258 = true then (if a0_9 = a1_9 then (some true) else (some false)) else (some false)) = some r := H
      have A6 := Aside0.mk A60
      clear A60
      by_cases c7 : t258 = true
      · subst c7
        have H1 : (if a0_9 = a1_9 then (some true) else (some false)) = some r := by rw [if_pos rfl] at H; exact H
        clear H
        have H := H1
        clear H1
        by_cases c8 : a0_9 = a1_9
        · rw [if_pos c8] at H
          have c8b0 : (a0_9 == a1_9) = true := beq_iff_eq.mpr c8
          have c8b1 : (a0_9 != a1_9) = false := bne_eq_false_iff_eq.mpr c8
          clear c8
          obtain rfl := Option.some.inj H
          go_enter Try.func45, Try.ntmps45
          go_wp2_with (first | ((with_reducible refine gate_dst (N := 2) rfl ?_); refine bxe (N := 2) (cs := #[.slice A0_0 l0_0.length c0_0, .int .i64 a0_1, .int .i64 a0_2, .int .i64 a0_3, .int .i64 a0_4, .string a0_5, .int .i64 a0_6, .int .i64 a0_7, .int .i64 a0_8, .int .i64 a0_9]) (t := 66) ?_; intro gb255 hg w9 hbox hb; have BK255 := Aside0.mk (hbox); have GW255 := an2 HB hg; have GE255 := an2 HB hg; replace HB := an0 HB hb; clear hb hbox hg) | ((with_reducible refine gate_dst (N := 3) rfl ?_); refine bxe (N := 3) (cs := #[.slice A1_0 l1_0.length c1_0, .int .i64 a1_1, .int .i64 a1_2, .int .i64 a1_3, .int .i64 a1_4, .string a1_5, .int .i64 a1_6, .int .i64 a1_7, .int .i64 a1_8, .int .i64 a1_9]) (t := 66) ?_; intro gb256 hg w10 hbox hb; have BK256 := Aside0.mk (hbox); have GW256 := an2 HB hg; have GE256 := an2 HB hg; have NB255_256 := an3 BK255 hg; have NB256_255 := an4 BK255 hg; replace BK255 := an1 BK255 hb; replace HB := an0 HB hb; clear hb hbox hg; have hnb11 := NB255_256.out; have hnc11 := NB256_255.out; obtain ⟨hcz12_0, hcz12_1, hcz12_2, hcz12_3, hcz12_4, hcz12_5, hcz12_6, hcz12_7, hcz12_8, hcz12_9, hfz12_0, hfz12_1, hfz12_2, hfz12_3, hfz12_4, hfz12_5, hfz12_6, hfz12_7, hfz12_8, hfz12_9⟩ := cl10 BK255; obtain ⟨hcz13_0, hcz13_1, hcz13_2, hcz13_3, hcz13_4, hcz13_5, hcz13_6, hcz13_7, hcz13_8, hcz13_9, hfz13_0, hfz13_1, hfz13_2, hfz13_3, hfz13_4, hfz13_5, hfz13_6, hfz13_7, hfz13_8, hfz13_9⟩ := cl10 BK256) | ((with_reducible refine gate_callee (f := 98) rfl ?_); refine gsl (some 9) rfl Try.func98 #[.slice A0_0 l0_0.length c0_0, .slice A1_0 l1_0.length c1_0] rfl ?_; (with_reducible refine (laws_eqRouteS.calls k _ _ l0_0 _ _ l1_0 true _ ?side1 ?side2 ?side3 ?side4 A3.out).mono ?_); (case side1 => exact cc (Kd.C_below HR0_0.out HB.out)); (case side2 => exact HC0_0.out); (case side3 => exact cc (Kd.C_below HR1_0.out HB.out)); (case side4 => exact HC1_0.out); rintro e w14 ⟨rfl, hb⟩; refine ⟨_, rfl, ?_⟩; replace BK255 := an1 BK255 hb; replace BK256 := an1 BK256 hb; replace HB := an0 HB hb; (try clear hb); (try clear hb2); (try clear hk); (try clear hi); obtain ⟨hcz15_0, hcz15_1, hcz15_2, hcz15_3, hcz15_4, hcz15_5, hcz15_6, hcz15_7, hcz15_8, hcz15_9, hfz15_0, hfz15_1, hfz15_2, hfz15_3, hfz15_4, hfz15_5, hfz15_6, hfz15_7, hfz15_8, hfz15_9⟩ := cl10 BK255; obtain ⟨hcz16_0, hcz16_1, hcz16_2, hcz16_3, hcz16_4, hcz16_5, hcz16_6, hcz16_7, hcz16_8, hcz16_9, hfz16_0, hfz16_1, hfz16_2, hfz16_3, hfz16_4, hfz16_5, hfz16_6, hfz16_7, hfz16_8, hfz16_9⟩ := cl10 BK256) | ((with_reducible refine gate_callee (f := 99) rfl ?_); refine gsl (some 20) rfl Try.func99 #[.agg #[.int .i64 a0_2, .int .i64 a0_3, .int .i64 a0_4, .string a0_5, .int .i64 a0_6, .int .i64 a0_7, .int .i64 a0_8], .agg #[.int .i64 a1_2, .int .i64 a1_3, .int .i64 a1_4, .string a1_5, .int .i64 a1_6, .int .i64 a1_7, .int .i64 a1_8]] rfl ?_; (with_reducible refine (laws_eqPlan.calls a0_2 a0_3 a0_4 a0_5 a0_6 a0_7 a0_8 a1_2 a1_3 a1_4 a1_5 a1_6 a1_7 a1_8 true _ A6.out).mono ?_); rintro e w17 ⟨rfl, hb⟩; refine ⟨_, rfl, ?_⟩; replace BK255 := an1 BK255 hb; replace BK256 := an1 BK256 hb; replace HB := an0 HB hb; (try clear hb); (try clear hb2); (try clear hk); (try clear hi); obtain ⟨hcz18_0, hcz18_1, hcz18_2, hcz18_3, hcz18_4, hcz18_5, hcz18_6, hcz18_7, hcz18_8, hcz18_9, hfz18_0, hfz18_1, hfz18_2, hfz18_3, hfz18_4, hfz18_5, hfz18_6, hfz18_7, hfz18_8, hfz18_9⟩ := cl10 BK255; obtain ⟨hcz19_0, hcz19_1, hcz19_2, hcz19_3, hcz19_4, hcz19_5, hcz19_6, hcz19_7, hcz19_8, hcz19_9, hfz19_0, hfz19_1, hfz19_2, hfz19_3, hfz19_4, hfz19_5, hfz19_6, hfz19_7, hfz19_8, hfz19_9⟩ := cl10 BK256))
          go_ret
          exact ⟨fe, bp HB.out⟩
        · rw [if_neg c8] at H
          have c8b0 : (a0_9 == a1_9) = false := beq_eq_false_iff_ne.mpr c8
          have c8b1 : (a0_9 != a1_9) = true := bne_iff_ne.mpr c8
          obtain rfl := Option.some.inj H
          go_enter Try.func45, Try.ntmps45
          go_wp2_with (first | ((with_reducible refine gate_dst (N := 2) rfl ?_); refine bxe (N := 2) (cs := #[.slice A0_0 l0_0.length c0_0, .int .i64 a0_1, .int .i64 a0_2, .int .i64 a0_3, .int .i64 a0_4, .string a0_5, .int .i64 a0_6, .int .i64 a0_7, .int .i64 a0_8, .int .i64 a0_9]) (t := 66) ?_; intro gb255 hg w20 hbox hb; have BK255 := Aside0.mk (hbox); have GW255 := an2 HB hg; have GE255 := an2 HB hg; replace HB := an0 HB hb; clear hb hbox hg) | ((with_reducible refine gate_dst (N := 3) rfl ?_); refine bxe (N := 3) (cs := #[.slice A1_0 l1_0.length c1_0, .int .i64 a1_1, .int .i64 a1_2, .int .i64 a1_3, .int .i64 a1_4, .string a1_5, .int .i64 a1_6, .int .i64 a1_7, .int .i64 a1_8, .int .i64 a1_9]) (t := 66) ?_; intro gb256 hg w21 hbox hb; have BK256 := Aside0.mk (hbox); have GW256 := an2 HB hg; have GE256 := an2 HB hg; have NB255_256 := an3 BK255 hg; have NB256_255 := an4 BK255 hg; replace BK255 := an1 BK255 hb; replace HB := an0 HB hb; clear hb hbox hg; have hnb22 := NB255_256.out; have hnc22 := NB256_255.out; obtain ⟨hcz23_0, hcz23_1, hcz23_2, hcz23_3, hcz23_4, hcz23_5, hcz23_6, hcz23_7, hcz23_8, hcz23_9, hfz23_0, hfz23_1, hfz23_2, hfz23_3, hfz23_4, hfz23_5, hfz23_6, hfz23_7, hfz23_8, hfz23_9⟩ := cl10 BK255; obtain ⟨hcz24_0, hcz24_1, hcz24_2, hcz24_3, hcz24_4, hcz24_5, hcz24_6, hcz24_7, hcz24_8, hcz24_9, hfz24_0, hfz24_1, hfz24_2, hfz24_3, hfz24_4, hfz24_5, hfz24_6, hfz24_7, hfz24_8, hfz24_9⟩ := cl10 BK256) | ((with_reducible refine gate_callee (f := 98) rfl ?_); refine gsl (some 9) rfl Try.func98 #[.slice A0_0 l0_0.length c0_0, .slice A1_0 l1_0.length c1_0] rfl ?_; (with_reducible refine (laws_eqRouteS.calls k _ _ l0_0 _ _ l1_0 true _ ?side1 ?side2 ?side3 ?side4 A3.out).mono ?_); (case side1 => exact cc (Kd.C_below HR0_0.out HB.out)); (case side2 => exact HC0_0.out); (case side3 => exact cc (Kd.C_below HR1_0.out HB.out)); (case side4 => exact HC1_0.out); rintro e w25 ⟨rfl, hb⟩; refine ⟨_, rfl, ?_⟩; replace BK255 := an1 BK255 hb; replace BK256 := an1 BK256 hb; replace HB := an0 HB hb; (try clear hb); (try clear hb2); (try clear hk); (try clear hi); obtain ⟨hcz26_0, hcz26_1, hcz26_2, hcz26_3, hcz26_4, hcz26_5, hcz26_6, hcz26_7, hcz26_8, hcz26_9, hfz26_0, hfz26_1, hfz26_2, hfz26_3, hfz26_4, hfz26_5, hfz26_6, hfz26_7, hfz26_8, hfz26_9⟩ := cl10 BK255; obtain ⟨hcz27_0, hcz27_1, hcz27_2, hcz27_3, hcz27_4, hcz27_5, hcz27_6, hcz27_7, hcz27_8, hcz27_9, hfz27_0, hfz27_1, hfz27_2, hfz27_3, hfz27_4, hfz27_5, hfz27_6, hfz27_7, hfz27_8, hfz27_9⟩ := cl10 BK256) | ((with_reducible refine gate_callee (f := 99) rfl ?_); refine gsl (some 20) rfl Try.func99 #[.agg #[.int .i64 a0_2, .int .i64 a0_3, .int .i64 a0_4, .string a0_5, .int .i64 a0_6, .int .i64 a0_7, .int .i64 a0_8], .agg #[.int .i64 a1_2, .int .i64 a1_3, .int .i64 a1_4, .string a1_5, .int .i64 a1_6, .int .i64 a1_7, .int .i64 a1_8]] rfl ?_; (with_reducible refine (laws_eqPlan.calls a0_2 a0_3 a0_4 a0_5 a0_6 a0_7 a0_8 a1_2 a1_3 a1_4 a1_5 a1_6 a1_7 a1_8 true _ A6.out).mono ?_); rintro e w28 ⟨rfl, hb⟩; refine ⟨_, rfl, ?_⟩; replace BK255 := an1 BK255 hb; replace BK256 := an1 BK256 hb; replace HB := an0 HB hb; (try clear hb); (try clear hb2); (try clear hk); (try clear hi); obtain ⟨hcz29_0, hcz29_1, hcz29_2, hcz29_3, hcz29_4, hcz29_5, hcz29_6, hcz29_7, hcz29_8, hcz29_9, hfz29_0, hfz29_1, hfz29_2, hfz29_3, hfz29_4, hfz29_5, hfz29_6, hfz29_7, hfz29_8, hfz29_9⟩ := cl10 BK255; obtain ⟨hcz30_0, hcz30_1, hcz30_2, hcz30_3, hcz30_4, hcz30_5, hcz30_6, hcz30_7, hcz30_8, hcz30_9, hfz30_0, hfz30_1, hfz30_2, hfz30_3, hfz30_4, hfz30_5, hfz30_6, hfz30_7, hfz30_8, hfz30_9⟩ := cl10 BK256))
          go_ret
          exact ⟨fe, bp HB.out⟩
      · replace c7 := Bool.eq_false_iff.mpr c7
        subst c7
        have H1 : (some false) = some r := by rw [if_neg (show ¬ (false = true) by decide)] at H; exact H
        clear H
        have H := H1
        clear H1
        obtain rfl := Option.some.inj H
        go_enter Try.func45, Try.ntmps45
        go_wp2_with (first | ((with_reducible refine gate_dst (N := 2) rfl ?_); refine bxe (N := 2) (cs := #[.slice A0_0 l0_0.length c0_0, .int .i64 a0_1, .int .i64 a0_2, .int .i64 a0_3, .int .i64 a0_4, .string a0_5, .int .i64 a0_6, .int .i64 a0_7, .int .i64 a0_8, .int .i64 a0_9]) (t := 66) ?_; intro gb255 hg w31 hbox hb; have BK255 := Aside0.mk (hbox); have GW255 := an2 HB hg; have GE255 := an2 HB hg; replace HB := an0 HB hb; clear hb hbox hg) | ((with_reducible refine gate_dst (N := 3) rfl ?_); refine bxe (N := 3) (cs := #[.slice A1_0 l1_0.length c1_0, .int .i64 a1_1, .int .i64 a1_2, .int .i64 a1_3, .int .i64 a1_4, .string a1_5, .int .i64 a1_6, .int .i64 a1_7, .int .i64 a1_8, .int .i64 a1_9]) (t := 66) ?_; intro gb256 hg w32 hbox hb; have BK256 := Aside0.mk (hbox); have GW256 := an2 HB hg; have GE256 := an2 HB hg; have NB255_256 := an3 BK255 hg; have NB256_255 := an4 BK255 hg; replace BK255 := an1 BK255 hb; replace HB := an0 HB hb; clear hb hbox hg; have hnb33 := NB255_256.out; have hnc33 := NB256_255.out; obtain ⟨hcz34_0, hcz34_1, hcz34_2, hcz34_3, hcz34_4, hcz34_5, hcz34_6, hcz34_7, hcz34_8, hcz34_9, hfz34_0, hfz34_1, hfz34_2, hfz34_3, hfz34_4, hfz34_5, hfz34_6, hfz34_7, hfz34_8, hfz34_9⟩ := cl10 BK255; obtain ⟨hcz35_0, hcz35_1, hcz35_2, hcz35_3, hcz35_4, hcz35_5, hcz35_6, hcz35_7, hcz35_8, hcz35_9, hfz35_0, hfz35_1, hfz35_2, hfz35_3, hfz35_4, hfz35_5, hfz35_6, hfz35_7, hfz35_8, hfz35_9⟩ := cl10 BK256) | ((with_reducible refine gate_callee (f := 98) rfl ?_); refine gsl (some 9) rfl Try.func98 #[.slice A0_0 l0_0.length c0_0, .slice A1_0 l1_0.length c1_0] rfl ?_; (with_reducible refine (laws_eqRouteS.calls k _ _ l0_0 _ _ l1_0 true _ ?side1 ?side2 ?side3 ?side4 A3.out).mono ?_); (case side1 => exact cc (Kd.C_below HR0_0.out HB.out)); (case side2 => exact HC0_0.out); (case side3 => exact cc (Kd.C_below HR1_0.out HB.out)); (case side4 => exact HC1_0.out); rintro e w36 ⟨rfl, hb⟩; refine ⟨_, rfl, ?_⟩; replace BK255 := an1 BK255 hb; replace BK256 := an1 BK256 hb; replace HB := an0 HB hb; (try clear hb); (try clear hb2); (try clear hk); (try clear hi); obtain ⟨hcz37_0, hcz37_1, hcz37_2, hcz37_3, hcz37_4, hcz37_5, hcz37_6, hcz37_7, hcz37_8, hcz37_9, hfz37_0, hfz37_1, hfz37_2, hfz37_3, hfz37_4, hfz37_5, hfz37_6, hfz37_7, hfz37_8, hfz37_9⟩ := cl10 BK255; obtain ⟨hcz38_0, hcz38_1, hcz38_2, hcz38_3, hcz38_4, hcz38_5, hcz38_6, hcz38_7, hcz38_8, hcz38_9, hfz38_0, hfz38_1, hfz38_2, hfz38_3, hfz38_4, hfz38_5, hfz38_6, hfz38_7, hfz38_8, hfz38_9⟩ := cl10 BK256) | ((with_reducible refine gate_callee (f := 99) rfl ?_); refine gsl (some 20) rfl Try.func99 #[.agg #[.int .i64 a0_2, .int .i64 a0_3, .int .i64 a0_4, .string a0_5, .int .i64 a0_6, .int .i64 a0_7, .int .i64 a0_8], .agg #[.int .i64 a1_2, .int .i64 a1_3, .int .i64 a1_4, .string a1_5, .int .i64 a1_6, .int .i64 a1_7, .int .i64 a1_8]] rfl ?_; (with_reducible refine (laws_eqPlan.calls a0_2 a0_3 a0_4 a0_5 a0_6 a0_7 a0_8 a1_2 a1_3 a1_4 a1_5 a1_6 a1_7 a1_8 false _ A6.out).mono ?_); rintro e w39 ⟨rfl, hb⟩; refine ⟨_, rfl, ?_⟩; replace BK255 := an1 BK255 hb; replace BK256 := an1 BK256 hb; replace HB := an0 HB hb; (try clear hb); (try clear hb2); (try clear hk); (try clear hi)))
        go_ret
        exact ⟨fe, bp HB.out⟩
    · rw [if_neg c5] at H
      have c5b0 : (a0_1 == a1_1) = false := beq_eq_false_iff_ne.mpr c5
      have c5b1 : (a0_1 != a1_1) = true := bne_iff_ne.mpr c5
      obtain rfl := Option.some.inj H
      go_enter Try.func45, Try.ntmps45
      go_wp2_with (first | ((with_reducible refine gate_dst (N := 2) rfl ?_); refine bxe (N := 2) (cs := #[.slice A0_0 l0_0.length c0_0, .int .i64 a0_1, .int .i64 a0_2, .int .i64 a0_3, .int .i64 a0_4, .string a0_5, .int .i64 a0_6, .int .i64 a0_7, .int .i64 a0_8, .int .i64 a0_9]) (t := 66) ?_; intro gb255 hg w40 hbox hb; have BK255 := Aside0.mk (hbox); have GW255 := an2 HB hg; have GE255 := an2 HB hg; replace HB := an0 HB hb; clear hb hbox hg) | ((with_reducible refine gate_dst (N := 3) rfl ?_); refine bxe (N := 3) (cs := #[.slice A1_0 l1_0.length c1_0, .int .i64 a1_1, .int .i64 a1_2, .int .i64 a1_3, .int .i64 a1_4, .string a1_5, .int .i64 a1_6, .int .i64 a1_7, .int .i64 a1_8, .int .i64 a1_9]) (t := 66) ?_; intro gb256 hg w41 hbox hb; have BK256 := Aside0.mk (hbox); have GW256 := an2 HB hg; have GE256 := an2 HB hg; have NB255_256 := an3 BK255 hg; have NB256_255 := an4 BK255 hg; replace BK255 := an1 BK255 hb; replace HB := an0 HB hb; clear hb hbox hg; have hnb42 := NB255_256.out; have hnc42 := NB256_255.out; obtain ⟨hcz43_0, hcz43_1, hcz43_2, hcz43_3, hcz43_4, hcz43_5, hcz43_6, hcz43_7, hcz43_8, hcz43_9, hfz43_0, hfz43_1, hfz43_2, hfz43_3, hfz43_4, hfz43_5, hfz43_6, hfz43_7, hfz43_8, hfz43_9⟩ := cl10 BK255; obtain ⟨hcz44_0, hcz44_1, hcz44_2, hcz44_3, hcz44_4, hcz44_5, hcz44_6, hcz44_7, hcz44_8, hcz44_9, hfz44_0, hfz44_1, hfz44_2, hfz44_3, hfz44_4, hfz44_5, hfz44_6, hfz44_7, hfz44_8, hfz44_9⟩ := cl10 BK256) | ((with_reducible refine gate_callee (f := 98) rfl ?_); refine gsl (some 9) rfl Try.func98 #[.slice A0_0 l0_0.length c0_0, .slice A1_0 l1_0.length c1_0] rfl ?_; (with_reducible refine (laws_eqRouteS.calls k _ _ l0_0 _ _ l1_0 true _ ?side1 ?side2 ?side3 ?side4 A3.out).mono ?_); (case side1 => exact cc (Kd.C_below HR0_0.out HB.out)); (case side2 => exact HC0_0.out); (case side3 => exact cc (Kd.C_below HR1_0.out HB.out)); (case side4 => exact HC1_0.out); rintro e w45 ⟨rfl, hb⟩; refine ⟨_, rfl, ?_⟩; replace BK255 := an1 BK255 hb; replace BK256 := an1 BK256 hb; replace HB := an0 HB hb; (try clear hb); (try clear hb2); (try clear hk); (try clear hi); obtain ⟨hcz46_0, hcz46_1, hcz46_2, hcz46_3, hcz46_4, hcz46_5, hcz46_6, hcz46_7, hcz46_8, hcz46_9, hfz46_0, hfz46_1, hfz46_2, hfz46_3, hfz46_4, hfz46_5, hfz46_6, hfz46_7, hfz46_8, hfz46_9⟩ := cl10 BK255; obtain ⟨hcz47_0, hcz47_1, hcz47_2, hcz47_3, hcz47_4, hcz47_5, hcz47_6, hcz47_7, hcz47_8, hcz47_9, hfz47_0, hfz47_1, hfz47_2, hfz47_3, hfz47_4, hfz47_5, hfz47_6, hfz47_7, hfz47_8, hfz47_9⟩ := cl10 BK256))
      go_ret
      exact ⟨fe, bp HB.out⟩
  · replace c4 := Bool.eq_false_iff.mpr c4
    subst c4
    have H1 : (some false) = some r := by rw [if_neg (show ¬ (false = true) by decide)] at H; exact H
    clear H
    have H := H1
    clear H1
    obtain rfl := Option.some.inj H
    go_enter Try.func45, Try.ntmps45
    go_wp2_with (first | ((with_reducible refine gate_dst (N := 2) rfl ?_); refine bxe (N := 2) (cs := #[.slice A0_0 l0_0.length c0_0, .int .i64 a0_1, .int .i64 a0_2, .int .i64 a0_3, .int .i64 a0_4, .string a0_5, .int .i64 a0_6, .int .i64 a0_7, .int .i64 a0_8, .int .i64 a0_9]) (t := 66) ?_; intro gb255 hg w48 hbox hb; have BK255 := Aside0.mk (hbox); have GW255 := an2 HB hg; have GE255 := an2 HB hg; replace HB := an0 HB hb; clear hb hbox hg) | ((with_reducible refine gate_dst (N := 3) rfl ?_); refine bxe (N := 3) (cs := #[.slice A1_0 l1_0.length c1_0, .int .i64 a1_1, .int .i64 a1_2, .int .i64 a1_3, .int .i64 a1_4, .string a1_5, .int .i64 a1_6, .int .i64 a1_7, .int .i64 a1_8, .int .i64 a1_9]) (t := 66) ?_; intro gb256 hg w49 hbox hb; have BK256 := Aside0.mk (hbox); have GW256 := an2 HB hg; have GE256 := an2 HB hg; have NB255_256 := an3 BK255 hg; have NB256_255 := an4 BK255 hg; replace BK255 := an1 BK255 hb; replace HB := an0 HB hb; clear hb hbox hg; have hnb50 := NB255_256.out; have hnc50 := NB256_255.out; obtain ⟨hcz51_0, hcz51_1, hcz51_2, hcz51_3, hcz51_4, hcz51_5, hcz51_6, hcz51_7, hcz51_8, hcz51_9, hfz51_0, hfz51_1, hfz51_2, hfz51_3, hfz51_4, hfz51_5, hfz51_6, hfz51_7, hfz51_8, hfz51_9⟩ := cl10 BK255; obtain ⟨hcz52_0, hcz52_1, hcz52_2, hcz52_3, hcz52_4, hcz52_5, hcz52_6, hcz52_7, hcz52_8, hcz52_9, hfz52_0, hfz52_1, hfz52_2, hfz52_3, hfz52_4, hfz52_5, hfz52_6, hfz52_7, hfz52_8, hfz52_9⟩ := cl10 BK256) | ((with_reducible refine gate_callee (f := 98) rfl ?_); refine gsl (some 9) rfl Try.func98 #[.slice A0_0 l0_0.length c0_0, .slice A1_0 l1_0.length c1_0] rfl ?_; (with_reducible refine (laws_eqRouteS.calls k _ _ l0_0 _ _ l1_0 false _ ?side1 ?side2 ?side3 ?side4 A3.out).mono ?_); (case side1 => exact cc (Kd.C_below HR0_0.out HB.out)); (case side2 => exact HC0_0.out); (case side3 => exact cc (Kd.C_below HR1_0.out HB.out)); (case side4 => exact HC1_0.out); rintro e w53 ⟨rfl, hb⟩; refine ⟨_, rfl, ?_⟩; replace BK255 := an1 BK255 hb; replace BK256 := an1 BK256 hb; replace HB := an0 HB hb; (try clear hb); (try clear hb2); (try clear hk); (try clear hi)))
    go_ret
    exact ⟨fe, bp HB.out⟩

end Go.Proofs.Ytkejaolfbejokaa.PFnExactMasterValid
