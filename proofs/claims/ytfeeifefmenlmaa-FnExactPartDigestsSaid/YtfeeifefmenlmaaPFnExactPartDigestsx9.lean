-- Written by a program of this session, in the manner of the kit's print (wip/pp.py): functions and their contracts.
import Derived.Test.YtfeeifefmenlmaaPFnExactPartDigestsx0
import Derived.Test.YtfeeifefmenlmaaPFnExactPartDigestsx5
import Derived.Test.YtfeeifefmenlmaaPFnExactPartDigestsx6
import Derived.Test.YtfeeifefmenlmaaPFnExactPartDigestsx7
import Derived.Test.YtfeeifefmenlmaaPFnExactPartDigestsx8
namespace Go.Proofs.Ytfeeifefmenlmaa.PFnExactPartDigests
open Go.RowKit Go.Proofs.YtfeeifefmenlmaaW.PrintWords Go.Proofs.YtfeeifefmenlmaaW.PrintLast Go.Proofs.YtfeeifefmenlmaaW.PrintMore
attribute [local go_sem] binOp_leq_str binOp_gtr_str binOp_geq_str max2_int min2_int max_two min_two max_three min_three max_four min_four   -- for this text's walks alone
set_option linter.unusedVariables false
set_option linter.unusedSimpArgs false

/-! ### spec_PairScan: function 142 -/
mutual
def spec_PairScan.j0 : Nat → List (S29) → Int → List (S29) → Bool → ByteArray → ByteArray → Option ((List (S29)))
  | 0, _, _, _, _, _, _ => none
  | k + 1, x0, x2, x7, x22, x252000, x252001 => if x22 = true then (some x7) else (spec_PairScan.l0 k x0 x2 x7 0 x252000 x252001)
def spec_PairScan.l0 : Nat → List (S29) → Int → List (S29) → Int → ByteArray → ByteArray → Option ((List (S29)))
  | 0, _, _, _, _, _, _ => none
  | k + 1, x0, x2, x7, x8, x252000, x252001 => if x8 < (x0.length : Int) then (spec_PairScan.j2 k x0 x2 x7 x8 (decide ((x7.length : Int) < x2)) x252000 x252001) else (spec_PairScan.j2 k x0 x2 x7 x8 false x252000 x252001)
def spec_PairScan.j2 : Nat → List (S29) → Int → List (S29) → Int → Bool → ByteArray → ByteArray → Option ((List (S29)))
  | 0, _, _, _, _, _, _, _ => none
  | k + 1, x0, x2, x7, x8, x33, x252000, x252001 => if x33 = true then (if 0 ≤ x8 then (if x8 < (x0.length : Int) then ((spec_IntervalHas.f k x252000 x252001 ((rd_T29 x0 x8).f0)).bind fun t259 => (if t259 = true then (if x7.length < 5864062014805 then (spec_PairScan.l0 k x0 x2 (x7 ++ [(⟨(rd_T29 x0 x8).f0, (rd_T29 x0 x8).f1⟩ : S29)]) (wrap64 (x8 + 1)) x252000 x252001) else (none)) else (spec_PairScan.l0 k x0 x2 x7 (wrap64 (x8 + 1)) x252000 x252001))) else (none)) else (none)) else (some x7)
end
def spec_PairScan.f (k : Nat) (l0 : List (S29)) (a1_0 : ByteArray) (a1_1 : ByteArray) (a2 : Int) : Option ((List (S29))) := (some (([] : List (S29)) : List (S29))).bind fun y252 => ((spec_PairsValid.f k l0).bind fun t255 => (if t255 = true then ((spec_IntervalValid.f k a1_0 a1_1).bind fun t256 => (if t256 = true then ((spec_l1In.f a2 0 48).bind fun t257 => (spec_PairScan.j0 k l0 a2 y252 (!t257) a1_0 a1_1)) else (spec_PairScan.j0 k l0 a2 y252 true a1_0 a1_1))) else (spec_PairScan.j0 k l0 a2 y252 true a1_0 a1_1)))
theorem spec_PairScan.mono_l : ∀ k, (∀ y0 y1 y2 y3 y4 y5, LeO (spec_PairScan.j0 k y0 y1 y2 y3 y4 y5) (spec_PairScan.j0 (k + 1) y0 y1 y2 y3 y4 y5)) ∧ (∀ y0 y1 y2 y3 y4 y5, LeO (spec_PairScan.l0 k y0 y1 y2 y3 y4 y5) (spec_PairScan.l0 (k + 1) y0 y1 y2 y3 y4 y5)) ∧ (∀ y0 y1 y2 y3 y4 y5 y6, LeO (spec_PairScan.j2 k y0 y1 y2 y3 y4 y5 y6) (spec_PairScan.j2 (k + 1) y0 y1 y2 y3 y4 y5 y6))
  | 0 => ⟨fun _ _ _ _ _ _ r h => by simp [spec_PairScan.j0] at h, fun _ _ _ _ _ _ r h => by simp [spec_PairScan.l0] at h, fun _ _ _ _ _ _ _ r h => by simp [spec_PairScan.j2] at h⟩
  | k + 1 => by
    obtain ⟨ih0, ih1, ih2⟩ := spec_PairScan.mono_l k
    refine ⟨?_, ?_, ?_⟩
    · intro y0 y1 y2 y3 y4 y5
      unfold spec_PairScan.j0
      repeat' first
      | (with_reducible exact ih0 _ _ _ _ _ _)
      | (with_reducible exact ih1 _ _ _ _ _ _)
      | (with_reducible exact ih2 _ _ _ _ _ _ _)
      | (with_reducible exact spec_IntervalHas.mono _ _ _ _)
      | (with_reducible exact spec_IntervalValid.mono _ _ _)
      | (with_reducible exact spec_PairsValid.mono _ _)
      | (with_reducible exact LeO.refl _)
      | (with_reducible exact LeO.none _)
      | (with_reducible refine LeO.ite ?_ ?_)
      | (with_reducible refine LeO.bind ?_ (fun _ => ?_))
      | exact ih0 _ _ _ _ _ _
      | exact ih1 _ _ _ _ _ _
      | exact ih2 _ _ _ _ _ _ _
      | exact spec_IntervalHas.mono _ _ _ _
      | exact spec_IntervalValid.mono _ _ _
      | exact spec_PairsValid.mono _ _
      | exact LeO.none _
      | refine LeO.ite ?_ ?_
      | refine LeO.bind ?_ (fun _ => ?_)
    · intro y0 y1 y2 y3 y4 y5
      unfold spec_PairScan.l0
      repeat' first
      | (with_reducible exact ih0 _ _ _ _ _ _)
      | (with_reducible exact ih1 _ _ _ _ _ _)
      | (with_reducible exact ih2 _ _ _ _ _ _ _)
      | (with_reducible exact spec_IntervalHas.mono _ _ _ _)
      | (with_reducible exact spec_IntervalValid.mono _ _ _)
      | (with_reducible exact spec_PairsValid.mono _ _)
      | (with_reducible exact LeO.refl _)
      | (with_reducible exact LeO.none _)
      | (with_reducible refine LeO.ite ?_ ?_)
      | (with_reducible refine LeO.bind ?_ (fun _ => ?_))
      | exact ih0 _ _ _ _ _ _
      | exact ih1 _ _ _ _ _ _
      | exact ih2 _ _ _ _ _ _ _
      | exact spec_IntervalHas.mono _ _ _ _
      | exact spec_IntervalValid.mono _ _ _
      | exact spec_PairsValid.mono _ _
      | exact LeO.none _
      | refine LeO.ite ?_ ?_
      | refine LeO.bind ?_ (fun _ => ?_)
    · intro y0 y1 y2 y3 y4 y5 y6
      unfold spec_PairScan.j2
      repeat' first
      | (with_reducible exact ih0 _ _ _ _ _ _)
      | (with_reducible exact ih1 _ _ _ _ _ _)
      | (with_reducible exact ih2 _ _ _ _ _ _ _)
      | (with_reducible exact spec_IntervalHas.mono _ _ _ _)
      | (with_reducible exact spec_IntervalValid.mono _ _ _)
      | (with_reducible exact spec_PairsValid.mono _ _)
      | (with_reducible exact LeO.refl _)
      | (with_reducible exact LeO.none _)
      | (with_reducible refine LeO.ite ?_ ?_)
      | (with_reducible refine LeO.bind ?_ (fun _ => ?_))
      | exact ih0 _ _ _ _ _ _
      | exact ih1 _ _ _ _ _ _
      | exact ih2 _ _ _ _ _ _ _
      | exact spec_IntervalHas.mono _ _ _ _
      | exact spec_IntervalValid.mono _ _ _
      | exact spec_PairsValid.mono _ _
      | exact LeO.none _
      | refine LeO.ite ?_ ?_
      | refine LeO.bind ?_ (fun _ => ?_)
theorem spec_PairScan.mono : ∀ a0 a1 a2 a3 k, LeO (spec_PairScan.f k a0 a1 a2 a3) (spec_PairScan.f (k + 1) a0 a1 a2 a3) := by
  intro a0 a1 a2 a3 k
  obtain ⟨ih0, ih1, ih2⟩ := spec_PairScan.mono_l k
  unfold spec_PairScan.f
  repeat' first
      | (with_reducible exact ih0 _ _ _ _ _ _)
      | (with_reducible exact ih1 _ _ _ _ _ _)
      | (with_reducible exact ih2 _ _ _ _ _ _ _)
      | (with_reducible exact spec_IntervalHas.mono _ _ _ _)
      | (with_reducible exact spec_IntervalValid.mono _ _ _)
      | (with_reducible exact spec_PairsValid.mono _ _)
      | (with_reducible exact LeO.refl _)
      | (with_reducible exact LeO.none _)
      | (with_reducible refine LeO.ite ?_ ?_)
      | (with_reducible refine LeO.bind ?_ (fun _ => ?_))
      | exact ih0 _ _ _ _ _ _
      | exact ih1 _ _ _ _ _ _
      | exact ih2 _ _ _ _ _ _ _
      | exact spec_IntervalHas.mono _ _ _ _
      | exact spec_IntervalValid.mono _ _ _
      | exact spec_PairsValid.mono _ _
      | exact LeO.none _
      | refine LeO.ite ?_ ?_
      | refine LeO.bind ?_ (fun _ => ?_)
set_option maxHeartbeats 8000000 in
set_option maxRecDepth 100000 in
theorem spec_PairScan.calls (k : Nat) (A0 : Option Addr) (c0 : Nat) (l0 : List (S29)) (a1_0 : ByteArray) (a1_1 : ByteArray) (a2 : Int) (r : List (S29)) (w : World) (hr0 : Kd.C k29 w A0 l0.length l0) (hc0 : l0.length ≤ c0) (h : spec_PairScan.f k l0 a1_0 a1_1 a2 = some r) :
    Calls Try.prog 142 #[.slice A0 l0.length c0, .agg #[.string a1_0, .string a1_1], .int .i64 a2] w fun e w' => ∃ v0_ : Value, e = .returned (v0_) ∧ Kd.R k29 29 w' w.heap.size (fun _ => True) v0_ r ∧ Below w.heap.size w w' := by
  have hu83 := Try.underlying83
  have hu29 := Try.underlying29
  have HR0 := Aside0.mk hr0
  have HC0 := Aside0.mk hc0
  clear hr0 hc0
  have HB := Aside0.mk (Below.refl w.heap.size w)
  have H : ((some (([] : List (S29)) : List (S29))).bind fun y252 => ((spec_PairsValid.f k l0).bind fun t255 => (if t255 = true then ((spec_IntervalValid.f k a1_0 a1_1).bind fun t256 => (if t256 = true then ((spec_l1In.f a2 0 48).bind fun t257 => (spec_PairScan.j0 k l0 a2 y252 (!t257) a1_0 a1_1)) else (spec_PairScan.j0 k l0 a2 y252 true a1_0 a1_1))) else (spec_PairScan.j0 k l0 a2 y252 true a1_0 a1_1)))) = some r := h
  clear h
  obtain ⟨y252, hy252⟩ : ∃ y_ : List (S29), y_ = (([] : List (S29))) := ⟨_, rfl⟩
  replace H : ((spec_PairsValid.f k l0).bind fun t255 => (if t255 = true then ((spec_IntervalValid.f k a1_0 a1_1).bind fun t256 => (if t256 = true then ((spec_l1In.f a2 0 48).bind fun t257 => (spec_PairScan.j0 k l0 a2 y252 (!t257) a1_0 a1_1)) else (spec_PairScan.j0 k l0 a2 y252 true a1_0 a1_1))) else (spec_PairScan.j0 k l0 a2 y252 true a1_0 a1_1))) = some r := by first | (rw [hy252]; with_reducible exact H) | (have H2_ := (Option.bind_some _ _).symm.trans H; rw [hy252]; with_reducible exact H2_) | (have H2_ := (Option.bind_some _ _).symm.trans H; with_reducible exact H2_) | with_reducible exact H | (rw [hy252]; exact H) | exact H
  have Ny252 := Aside0.mk hy252
  clear hy252
  have HC4 := Aside0.mk H
  clear H
  go_enter Try.func142, Try.ntmps142
  go_upto_region 2 with (first | ((with_reducible refine gate_dst (N := 4) rfl ?_); (try (refine gate_guard (by rfl) ?_; dsimp only)); refine bxe (N := 4) (cs := #[.string a1_0, .string a1_1]) (t := 83) ?_; intro gb251 hg w5 hbox hb; have BK251 := Aside0.mk (hbox); have GW251 := an2 HB hg; have GE251 := an2 HB hg; replace HB := an0 HB hb; clear hb hbox hg) | ((with_reducible refine gate_dst (N := 9) rfl ?_); (try (refine gate_guard (by rfl) ?_; dsimp only)); refine Kd.R_lit k29 _ 29 ?hg (N := 9) ?hd (xs := ([] : List (S29))) (inner := []) (ok := fun _ => True) (okp := fun _ => True) ?hr ?hp (fun _ hk => hk) trivial (Below.refl _ _) (Nat.le_refl _) (by simp) ?_; (case hd => rfl); (case hg => rfl); (case hr => first | (go_simp; done) | (go_simp; rfl)); (case hp => exact (Reps.none _ _)); intro v253 w6 ho7 hb hg_ hnew_; clear hg_ hnew_; (first | rw [← Ny252.out] at ho7 | (simp only [Int.reduceToNat] at ho7; rw [← Ny252.out] at ho7)); have n0_ := Aside0.mk (Kd.R_lower ho7 (below_size (bp HB.out))); have n1_ := an1 BK251 hb; have n2_ := an0 HB hb; clear BK251; clear HB; have HO254 := n0_; have BK251 := n1_; have HB := n2_; clear n0_ n1_ n2_; clear hb ho7))
  (try simp only [Act.put, List.setIfInBounds_toArray, List.set_cons_zero, List.set_cons_succ])
  go_cut [22] (fun v22 wc => ∃ (kq : Nat) (x22_3 : Bool), v22 = .bool x22_3 ∧ Aside0 (spec_PairScan.j0 kq l0 a2 y252 x22_3 a1_0 a1_1 = some r) ∧ Aside0 (kq ≤ k) ∧ Aside0 (Kd.R k29 29 wc w.heap.size (fun _ => True) v253 y252) ∧ Aside0 (wc.heap[gb251]? = some (.cells #[.string a1_0, .string a1_1] 83 (0, 0))) ∧ Aside0 (Below w.heap.size w wc))
  case first =>
    have H := HC4.out
    clear HC4
    replace H := Option.bind_eq_some_iff.mp H
    obtain ⟨t255, A80, H⟩ := H
    replace H : (if t255 = true then ((spec_IntervalValid.f k a1_0 a1_1).bind fun t256 => (if t256 = true then ((spec_l1In.f a2 0 48).bind fun t257 => (spec_PairScan.j0 k l0 a2 y252 (!t257) a1_0 a1_1)) else (spec_PairScan.j0 k l0 a2 y252 true a1_0 a1_1))) else (spec_PairScan.j0 k l0 a2 y252 true a1_0 a1_1)) = some r := H
    have A8 := Aside0.mk A80
    clear A80
    by_cases c9 : t255 = true
    · subst c9
      have H1 : ((spec_IntervalValid.f k a1_0 a1_1).bind fun t256 => (if t256 = true then ((spec_l1In.f a2 0 48).bind fun t257 => (spec_PairScan.j0 k l0 a2 y252 (!t257) a1_0 a1_1)) else (spec_PairScan.j0 k l0 a2 y252 true a1_0 a1_1))) = some r := by rw [if_pos rfl] at H; exact H
      clear H
      have H := H1
      clear H1
      replace H := Option.bind_eq_some_iff.mp H
      obtain ⟨t256, A100, H⟩ := H
      replace H : (if t256 = true then ((spec_l1In.f a2 0 48).bind fun t257 => (spec_PairScan.j0 k l0 a2 y252 (!t257) a1_0 a1_1)) else (spec_PairScan.j0 k l0 a2 y252 true a1_0 a1_1)) = some r := H
      have A10 := Aside0.mk A100
      clear A100
      by_cases c11 : t256 = true
      · subst c11
        have H1 : ((spec_l1In.f a2 0 48).bind fun t257 => (spec_PairScan.j0 k l0 a2 y252 (!t257) a1_0 a1_1)) = some r := by rw [if_pos rfl] at H; exact H
        clear H
        have H := H1
        clear H1
        replace H := Option.bind_eq_some_iff.mp H
        obtain ⟨t257, A120, H⟩ := H
        replace H : (spec_PairScan.j0 k l0 a2 y252 (!t257) a1_0 a1_1) = some r := H
        have A12 := Aside0.mk A120
        clear A120
        have H' := Aside0.mk H
        clear H
        go_wp2_with (first | ((with_reducible refine gate_callee (f := 72) rfl ?_); refine gsl (some 11) rfl Try.func72 #[.slice A0 l0.length c0] rfl ?_; (with_reducible refine (spec_PairsValid.calls k _ _ l0 true _ ?side1 ?side2 A8.out).mono ?_); (case side1 => exact cc (Kd.C_below HR0.out HB.out)); (case side2 => exact HC0.out); rintro e w13 ⟨rfl, hb⟩; refine ⟨_, rfl, ?_⟩; have n0_ := Aside0.mk (Kd.R_below (kr HO254.out) hb); have n1_ := an1 BK251 hb; have n2_ := an0 HB hb; clear HO254; clear BK251; clear HB; have HO254 := n0_; have BK251 := n1_; have HB := n2_; clear n0_ n1_ n2_; (try clear hb); (try clear hb2); (try clear hk); (try clear hi); obtain ⟨hcz14_0, hcz14_1, hfz14_0, hfz14_1⟩ := cl2 BK251) | (go_at_call 140; (with_reducible refine (spec_IntervalValid.calls k a1_0 a1_1 true _ A10.out).mono ?_); rintro e w15 ⟨rfl, hb⟩; have n0_ := Aside0.mk (Kd.R_below (kr HO254.out) hb); have n1_ := an1 BK251 hb; have n2_ := an0 HB hb; clear HO254; clear BK251; clear HB; have HO254 := n0_; have BK251 := n1_; have HB := n2_; clear n0_ n1_ n2_; (try clear hb); (try clear hb2); (try clear hk); (try clear hi)) | (go_at_call 112; (with_reducible refine (spec_l1In.calls a2 0 48 t257 _ A12.out).mono ?_); rintro e w' ⟨rfl, ⟨nd, rfl⟩⟩))
        go_meet
        case rel => exact ⟨_, (!t257), (by first | rfl | (simp; done) | (simp [*]; done) | (simp [bne_nil_, beq_nil_]; done)), H', ⟨by first | omega | exact Nat.le_refl _⟩, ⟨by (with_reducible repeat (first | apply Kd.R_alloc | apply Kd.R_drewN | apply Kd.R_drew)); exact HO254.out⟩, ⟨kb BK251.out⟩, ⟨bp HB.out⟩⟩
      · replace c11 := Bool.eq_false_iff.mpr c11
        subst c11
        have H1 : (spec_PairScan.j0 k l0 a2 y252 true a1_0 a1_1) = some r := by rw [if_neg (show ¬ (false = true) by decide)] at H; exact H
        clear H
        have H := H1
        clear H1
        have H' := Aside0.mk H
        clear H
        go_wp2_with (first | ((with_reducible refine gate_callee (f := 72) rfl ?_); refine gsl (some 11) rfl Try.func72 #[.slice A0 l0.length c0] rfl ?_; (with_reducible refine (spec_PairsValid.calls k _ _ l0 true _ ?side1 ?side2 A8.out).mono ?_); (case side1 => exact cc (Kd.C_below HR0.out HB.out)); (case side2 => exact HC0.out); rintro e w16 ⟨rfl, hb⟩; refine ⟨_, rfl, ?_⟩; have n0_ := Aside0.mk (Kd.R_below (kr HO254.out) hb); have n1_ := an1 BK251 hb; have n2_ := an0 HB hb; clear HO254; clear BK251; clear HB; have HO254 := n0_; have BK251 := n1_; have HB := n2_; clear n0_ n1_ n2_; (try clear hb); (try clear hb2); (try clear hk); (try clear hi); obtain ⟨hcz17_0, hcz17_1, hfz17_0, hfz17_1⟩ := cl2 BK251) | (go_at_call 140; (with_reducible refine (spec_IntervalValid.calls k a1_0 a1_1 false _ A10.out).mono ?_); rintro e w18 ⟨rfl, hb⟩; have n0_ := Aside0.mk (Kd.R_below (kr HO254.out) hb); have n1_ := an1 BK251 hb; have n2_ := an0 HB hb; clear HO254; clear BK251; clear HB; have HO254 := n0_; have BK251 := n1_; have HB := n2_; clear n0_ n1_ n2_; (try clear hb); (try clear hb2); (try clear hk); (try clear hi)))
        go_meet
        case rel => exact ⟨_, (true), (by first | rfl | (simp; done) | (simp [*]; done) | (simp [bne_nil_, beq_nil_]; done)), H', ⟨by first | omega | exact Nat.le_refl _⟩, ⟨by (with_reducible repeat (first | apply Kd.R_alloc | apply Kd.R_drewN | apply Kd.R_drew)); exact HO254.out⟩, ⟨kb BK251.out⟩, ⟨bp HB.out⟩⟩
    · replace c9 := Bool.eq_false_iff.mpr c9
      subst c9
      have H1 : (spec_PairScan.j0 k l0 a2 y252 true a1_0 a1_1) = some r := by rw [if_neg (show ¬ (false = true) by decide)] at H; exact H
      clear H
      have H := H1
      clear H1
      have H' := Aside0.mk H
      clear H
      go_wp2_with (first | ((with_reducible refine gate_callee (f := 72) rfl ?_); refine gsl (some 11) rfl Try.func72 #[.slice A0 l0.length c0] rfl ?_; (with_reducible refine (spec_PairsValid.calls k _ _ l0 false _ ?side1 ?side2 A8.out).mono ?_); (case side1 => exact cc (Kd.C_below HR0.out HB.out)); (case side2 => exact HC0.out); rintro e w19 ⟨rfl, hb⟩; refine ⟨_, rfl, ?_⟩; have n0_ := Aside0.mk (Kd.R_below (kr HO254.out) hb); have n1_ := an1 BK251 hb; have n2_ := an0 HB hb; clear HO254; clear BK251; clear HB; have HO254 := n0_; have BK251 := n1_; have HB := n2_; clear n0_ n1_ n2_; (try clear hb); (try clear hb2); (try clear hk); (try clear hi)))
      go_meet
      case rel => exact ⟨_, (true), (by first | rfl | (simp; done) | (simp [*]; done) | (simp [bne_nil_, beq_nil_]; done)), H', ⟨by first | omega | exact Nat.le_refl _⟩, ⟨by (with_reducible repeat (first | apply Kd.R_alloc | apply Kd.R_drewN | apply Kd.R_drew)); exact HO254.out⟩, ⟨kb BK251.out⟩, ⟨bp HB.out⟩⟩
  case rest =>
    clear HC4
    try clear c1
    try clear p2
    try clear c7
    try clear c9
    try clear c11
    try clear c14
    try clear hcz14_0
    try clear hcz14_1
    try clear hcz17_0
    try clear hcz17_1
    try clear hfz14_0
    try clear hfz14_1
    try clear hfz17_0
    try clear hfz17_1
    obtain ⟨kq, x22_3, rfl, HA, HJ3, HO_7, BK251, HB⟩ := hcut
    cases kq with
    | zero => exact absurd HA.out (by simp [spec_PairScan.j0])
    | succ kj3 =>
      have H := HA.out
      clear HA
      simp only [spec_PairScan.j0] at H
      by_cases c20 : x22_3 = true
      · subst c20
        have H1 : (some y252) = some r := by rw [if_pos rfl] at H; exact H
        clear H
        have H := H1
        clear H1
        obtain rfl := Option.some.inj H
        go_wp2
        go_ret
        exact ⟨_, fe, by (with_reducible repeat (first | apply Kd.R_alloc | apply Kd.R_drewN | apply Kd.R_drew)); exact HO_7.out, bp HB.out⟩
      · replace c20 := Bool.eq_false_iff.mpr c20
        subst c20
        have H1 : (spec_PairScan.l0 kj3 l0 a2 y252 0 a1_0 a1_1) = some r := by rw [if_neg (show ¬ (false = true) by decide)] at H; exact H
        clear H
        have H := H1
        clear H1
        have H' := Aside0.mk H
        clear H
        go_wp2
        go_loopg [7, 8] kj3 (fun kq v7 v8 w' => ∃ (x7_2 : List (S29)) (x8_2 : Int), v8 = .int .i64 x8_2 ∧ Aside0 (spec_PairScan.l0 kq l0 a2 x7_2 x8_2 a1_0 a1_1 = some r) ∧ Aside0 (kq ≤ kj3) ∧ Aside0 (Kd.R k29 29 w' w.heap.size (fun _ => True) v7 x7_2) ∧ Aside0 (w'.heap[gb251]? = some (.cells #[.string a1_0, .string a1_1] 83 (0, 0))) ∧ Aside0 (Below w.heap.size w w'))
        case atStart => exact ⟨(y252), (0), (by first | rfl | (simp; done) | (simp [*]; done) | (simp [bne_nil_, beq_nil_]; done)), H', ⟨Nat.le_refl _⟩, ⟨by (with_reducible repeat (first | apply Kd.R_alloc | apply Kd.R_drewN | apply Kd.R_drew)); exact HO_7.out⟩, ⟨kb BK251.out⟩, ⟨bp HB.out⟩⟩
        case round =>
          clear H'
          try clear c1
          try clear c2
          try clear p2
          try clear p6
          try clear c7
          try clear c9
          try clear c11
          try clear c14
          try clear c20
          try clear hcz14_0
          try clear hcz14_1
          try clear hcz17_0
          try clear hcz17_1
          try clear hfz14_0
          try clear hfz14_1
          try clear hfz17_0
          try clear hfz17_1
          try clear p2
          obtain ⟨x7_2, x8_2, rfl, HA, HK2, HO_7, BK251, HB⟩ := hrel
          cases gk with
          | zero => exact absurd HA.out (by simp [spec_PairScan.l0])
          | succ k2 =>
            have H := HA.out
            clear HA
            simp only [spec_PairScan.l0] at H
            have HC21 := Aside0.mk H
            clear H
            go_upto_region 5 with (fail)
            go_cut [33] (fun v33 wc => ∃ (kq : Nat) (x33_20 : Bool), v33 = .bool x33_20 ∧ Aside0 (spec_PairScan.j2 kq l0 a2 x7_2 x8_2 x33_20 a1_0 a1_1 = some r) ∧ Aside0 (kq ≤ k2) ∧ Aside0 (Kd.R k29 29 wc w.heap.size (fun _ => True) u7 x7_2) ∧ Aside0 (wc.heap[gb251]? = some (.cells #[.string a1_0, .string a1_1] 83 (0, 0))) ∧ Aside0 (Below w.heap.size w wc))
            case first =>
              have H := HC21.out
              clear HC21
              by_cases c22 : x8_2 < (l0.length : Int)
              · rw [if_pos c22] at H
                have c22b0 : decide (x8_2 < (l0.length : Int)) = true := decide_eq_true c22
                clear c22
                (first | rw [c22b0] | (simp only [i64_w, i32_w]; rw [c22b0]) | skip)
                have H' := Aside0.mk H
                clear H
                obtain ⟨Ao23, co23, eo23⟩ := Kd.R_slice HO_7.out
                subst eo23
                go_wp2
                go_meet
                case rel => exact ⟨_, (decide ((x7_2.length : Int) < a2)), (by first | rfl | (simp; done) | (simp [*]; done) | (simp [bne_nil_, beq_nil_]; done)), H', ⟨by have := HJ3.out; have := HK2.out; first | omega | exact Nat.le_refl _⟩, ⟨by (with_reducible repeat (first | apply Kd.R_alloc | apply Kd.R_drewN | apply Kd.R_drew)); exact HO_7.out⟩, ⟨kb BK251.out⟩, ⟨bp HB.out⟩⟩
              · rw [if_neg c22] at H
                have c22b0 : decide (x8_2 < (l0.length : Int)) = false := decide_eq_false c22
                clear c22
                (first | rw [c22b0] | (simp only [i64_w, i32_w]; rw [c22b0]) | skip)
                have H' := Aside0.mk H
                clear H
                go_wp2
                go_meet
                case rel => exact ⟨_, (false), (by first | rfl | (simp; done) | (simp [*]; done) | (simp [bne_nil_, beq_nil_]; done)), H', ⟨by have := HJ3.out; have := HK2.out; first | omega | exact Nat.le_refl _⟩, ⟨by (with_reducible repeat (first | apply Kd.R_alloc | apply Kd.R_drewN | apply Kd.R_drew)); exact HO_7.out⟩, ⟨kb BK251.out⟩, ⟨bp HB.out⟩⟩
            case rest =>
              clear HC21
              try clear c1
              try clear c2
              try clear p2
              try clear p6
              try clear c7
              try clear c9
              try clear c11
              try clear c14
              try clear c20
              try clear c22
              try clear c22b0
              try clear hcz14_0
              try clear hcz14_1
              try clear hcz17_0
              try clear hcz17_1
              try clear hfz14_0
              try clear hfz14_1
              try clear hfz17_0
              try clear hfz17_1
              try clear p2
              try clear p6
              obtain ⟨kq, x33_20, rfl, HA, HJ20, HO_7, BK251, HB⟩ := hcut
              cases kq with
              | zero => exact absurd HA.out (by simp [spec_PairScan.j2])
              | succ kj20 =>
                have H := HA.out
                clear HA
                simp only [spec_PairScan.j2] at H
                by_cases c24 : x33_20 = true
                · subst c24
                  have H1 : (if 0 ≤ x8_2 then (if x8_2 < (l0.length : Int) then ((spec_IntervalHas.f kj20 a1_0 a1_1 ((rd_T29 l0 x8_2).f0)).bind fun t259 => (if t259 = true then (if x7_2.length < 5864062014805 then (spec_PairScan.l0 kj20 l0 a2 (x7_2 ++ [(⟨(rd_T29 l0 x8_2).f0, (rd_T29 l0 x8_2).f1⟩ : S29)]) (wrap64 (x8_2 + 1)) a1_0 a1_1) else (none)) else (spec_PairScan.l0 kj20 l0 a2 x7_2 (wrap64 (x8_2 + 1)) a1_0 a1_1))) else (none)) else (none)) = some r := by rw [if_pos rfl] at H; exact H
                  clear H
                  have H := H1
                  clear H1
                  by_cases c25 : 0 ≤ x8_2
                  · rw [if_pos c25] at H
                    have c25b0 : decide (0 ≤ x8_2) = true := decide_eq_true c25
                    clear c25
                    by_cases c26 : x8_2 < (l0.length : Int)
                    · rw [if_pos c26] at H
                      have c26b0 : decide (x8_2 < (l0.length : Int)) = true := decide_eq_true c26
                      clear c26
                      replace H := Option.bind_eq_some_iff.mp H
                      obtain ⟨t259, A270, H⟩ := H
                      replace H : (if t259 = true then (if x7_2.length < 5864062014805 then (spec_PairScan.l0 kj20 l0 a2 (x7_2 ++ [(⟨(rd_T29 l0 x8_2).f0, (rd_T29 l0 x8_2).f1⟩ : S29)]) (wrap64 (x8_2 + 1)) a1_0 a1_1) else (none)) else (spec_PairScan.l0 kj20 l0 a2 x7_2 (wrap64 (x8_2 + 1)) a1_0 a1_1)) = some r := H
                      have A27 := Aside0.mk A270
                      clear A270
                      by_cases c28 : t259 = true
                      · subst c28
                        have H1 : (if x7_2.length < 5864062014805 then (spec_PairScan.l0 kj20 l0 a2 (x7_2 ++ [(⟨(rd_T29 l0 x8_2).f0, (rd_T29 l0 x8_2).f1⟩ : S29)]) (wrap64 (x8_2 + 1)) a1_0 a1_1) else (none)) = some r := by rw [if_pos rfl] at H; exact H
                        clear H
                        have H := H1
                        clear H1
                        by_cases c29 : x7_2.length < 5864062014805
                        · rw [if_pos c29] at H
                          have LMc29 := Aside0.mk c29
                          clear c29
                          obtain ⟨y261, hy261⟩ : ∃ y_ : List (S29), y_ = (x7_2 ++ [(⟨(rd_T29 l0 x8_2).f0, (rd_T29 l0 x8_2).f1⟩ : S29)]) := ⟨_, rfl⟩
                          replace H : (spec_PairScan.l0 kj20 l0 a2 y261 (wrap64 (x8_2 + 1)) a1_0 a1_1) = some r := by first | (rw [hy261]; with_reducible exact H) | (have H2_ := (Option.bind_some _ _).symm.trans H; rw [hy261]; with_reducible exact H2_) | (have H2_ := (Option.bind_some _ _).symm.trans H; with_reducible exact H2_) | with_reducible exact H | (rw [hy261]; exact H) | exact H
                          have Ny261 := Aside0.mk hy261
                          clear hy261
                          have H' := Aside0.mk H
                          clear H
                          try go_wp2
                          have n0_ := Aside0.mk (Kd.R_drew HO_7.out)
                          have n1_ := Aside0.mk (blk_drew BK251.out)
                          have n2_ := Aside0.mk (below_drew1 HB.out)
                          clear HO_7
                          clear BK251
                          clear HB
                          have HO_7 := n0_
                          have BK251 := n1_
                          have HB := n2_
                          clear n0_ n1_ n2_
                          have p258 : 0 ≤ (x8_2 : Int) := of_decide_eq_true (by first | (with_reducible assumption) | assumption)
                          have q258 : x8_2 < (l0.length : Int) := of_decide_eq_true (by first | (with_reducible assumption) | assumption)
                          obtain ⟨ad258, e258, hx258_0, hx258_1⟩ := at_T29 HR0.out x8_2 p258 q258
                          have hw258_1 := hx258_1
                          have hw258_0 := hx258_0
                          cases e258
                          replace hx258_0 := hcx HB hx258_0
                          replace hx258_1 := hcx HB hx258_1
                          replace p258 := eq_true p258
                          replace q258 := eq_true q258
                          refine start_ (n := 7) (S := fun w' => w'.cell? ⟨gb251, 0, none⟩ = some (.string a1_0) ∧ w'.cell? ⟨gb251, 1, none⟩ = some (.string a1_1) ∧ w'.cell? (ad258.add ((x8_2).toNat * 2)) = some (.string ((rd_T29 l0 x8_2).f0)) ∧ w'.cell? ⟨(ad258.add ((x8_2).toNat * 2)).block, (ad258.add ((x8_2).toNat * 2)).off + 1, none⟩ = some (.int .i64 ((rd_T29 l0 x8_2).f1))) (ds := []) #[false, false, false, false, false, false, false] (by kernel_rfl) rfl rfl ⟨(blk_cell BK251.out 0).trans rfl, (blk_cell BK251.out 1).trans rfl, (hcx HB hw258_0), (hcx HB hw258_1)⟩ (fun hHeld => ?_)
                          generalize wc.drew = w30 at HO_7 BK251 HB hx258_0 hx258_1 hHeld ⊢
                          refine pure_ (i := 1) (N := some 37) (v := ?_) (a' := ?_) #[false, true, false, false, false, false, false] rfl rfl (by kernel_rfl) (fun _ _ _ h => h) (Or.inl ⟨by rfl, ?_⟩) ?_ ?_
                          rotate_left; focus (intro w'; go_simp; with_reducible rfl)
                          rotate_left; focus (simp only [Act.put, List.setIfInBounds_toArray, List.set_cons_zero, List.set_cons_succ, i64_w, i32_w]; rfl)
                          refine pure_ (i := 2) (N := some 38) (v := ?_) (a' := ?_) #[false, true, true, false, false, false, false] rfl rfl (by kernel_rfl) (fun _ _ _ h => h) (Or.inl ⟨by rfl, ?_⟩) ?_ ?_
                          rotate_left; focus (intro w'; go_simp; with_reducible rfl)
                          rotate_left; focus (simp only [Act.put, List.setIfInBounds_toArray, List.set_cons_zero, List.set_cons_succ, i64_w, i32_w]; rfl)
                          refine pure_ (i := 3) (N := some 39) (v := ?_) (a' := ?_) #[false, true, true, true, false, false, false] rfl rfl (by kernel_rfl) (fun _ _ _ h => h) (Or.inl ⟨by rfl, ?_⟩) ?_ ?_
                          rotate_left; focus (intro w'; go_simp; with_reducible rfl)
                          rotate_left; focus (simp only [Act.put, List.setIfInBounds_toArray, List.set_cons_zero, List.set_cons_succ, i64_w, i32_w]; rfl)
                          refine pure_ (i := 4) (N := some 40) (v := ?_) (a' := ?_) #[false, true, true, true, true, false, false] rfl rfl (by kernel_rfl) (fun _ _ _ h => h) (Or.inl ⟨by rfl, ?_⟩) ?_ ?_
                          rotate_left; focus (intro w'; go_simp; with_reducible rfl)
                          rotate_left; focus (simp only [Act.put, List.setIfInBounds_toArray, List.set_cons_zero, List.set_cons_succ, i64_w, i32_w]; rfl)
                          refine take_ (i := 0) (N := some 36) (v := ?_) (a' := ?_) #[true, true, true, true, true, false, false] rfl rfl (by kernel_rfl) (fun _ _ _ h => h) (Or.inl ⟨by rfl, ?_⟩) hHeld ?_ ?_
                          rotate_left
                          · rintro w' ⟨s0, s1, s2, s3⟩
                            go_simp
                            with_reducible rfl
                          rotate_left; focus (simp only [Act.put, List.setIfInBounds_toArray, List.set_cons_zero, List.set_cons_succ, i64_w, i32_w]; rfl)
                          refine take_ (i := 5) (N := some 41) (v := ?_) (a' := ?_) #[true, true, true, true, true, true, false] rfl rfl (by kernel_rfl) (fun _ _ _ h => h) (Or.inl ⟨by rfl, ?_⟩) hHeld ?_ ?_
                          rotate_left
                          · rintro w' ⟨s0, s1, s2, s3⟩
                            go_simp
                            with_reducible rfl
                          rotate_left; focus (simp only [Act.put, List.setIfInBounds_toArray, List.set_cons_zero, List.set_cons_succ, i64_w, i32_w]; rfl)
                          refine one_ (i := 6) (N := some 42) #[true, true, true, true, true, true, true] rfl rfl (by kernel_rfl) (by decide) (fun K hK => ?_)
                          refine goes_ Try.func161 (by kernel_rfl) rfl #[.agg #[.string a1_0, .string a1_1], .string ((rd_T29 l0 x8_2).f0)] (by rfl) rfl rfl (by (try simp only [List.map_toArray, List.map_cons, List.map_nil]); first | done | rfl | (simp only [List.length_drop, List.length_take]; rfl)) ?_
                          with_reducible refine (spec_IntervalHas.calls kj20 a1_0 a1_1 ((rd_T29 l0 x8_2).f0) true _ A27.out).mono ?_
                          rintro e w31 ⟨rfl, hb⟩
                          refine ⟨_, rfl, ?_⟩
                          have n0_ := Aside0.mk (Kd.R_below (kr HO_7.out) hb)
                          have n1_ := an1 BK251 hb
                          have n2_ := an0 HB hb
                          clear HO_7
                          clear BK251
                          clear HB
                          have HO_7 := n0_
                          have BK251 := n1_
                          have HB := n2_
                          clear n0_ n1_ n2_
                          (try clear hb)
                          (try clear hb2)
                          (try clear hk)
                          (try clear hi)
                          refine hK.out _ _ ⟨(blk_cell BK251.out 0).trans rfl, (blk_cell BK251.out 1).trans rfl, (hcx HB hw258_0), (hcx HB hw258_1)⟩ (fun hHeld => ?_)
                          clear hK K
                          refine norm_ (a' := ?_) ?_ ?_
                          rotate_left
                          · show Act.put _ (some 42) _ = _
                            simp only [Act.put, List.setIfInBounds_toArray, List.set_cons_zero, List.set_cons_succ, i64_w, i32_w]
                            rfl
                          refine done_ (by kernel_rfl) ?_
                          have p260 : 0 ≤ (x8_2 : Int) := of_decide_eq_true (by first | (with_reducible assumption) | assumption)
                          have q260 : x8_2 < (l0.length : Int) := of_decide_eq_true (by first | (with_reducible assumption) | assumption)
                          obtain ⟨ad260, e260, hx260_0, hx260_1⟩ := at_T29 HR0.out x8_2 p260 q260
                          obtain rfl : ad258 = ad260 := (by injection e260)
                          replace hx260_0 := hcx HB hx260_0
                          replace hx260_1 := hcx HB hx260_1
                          replace p260 := eq_true p260
                          replace q260 := eq_true q260
                          try go_wp2_with (first | ((with_reducible refine gate_builtin (b := .append) (xs := #[.tmp 43, .tmp 48]) rfl ?_); (try (refine gate_guard (by rfl) ?_; dsimp only)); at_builtin; refine Kd.R_append k29 (w0 := w) w.heap.size rfl (.tmp 43) (.tmp 48) 23 29 (.agg #[(.string ⟨#[]⟩), (.int .i64 0)]) 24 rfl Try.underlying23 info29 rfl (by decide) (by omega) u7 x7_2 (⟨(rd_T29 l0 x8_2).f0, (rd_T29 l0 x8_2).f1⟩ : S29) [.string ((rd_T29 l0 x8_2).f0), .int .i64 ((rd_T29 l0 x8_2).f1)] (fun _ => True) (fun _ => False) rfl rfl ?aP (fun _ hk => hk.elim) ?aF ?aO ?aB ?aS ?aL ?_; (case aP => exact k29_mkM _ _ _ (⟨(rd_T29 l0 x8_2).f0, (rd_T29 l0 x8_2).f1⟩ : S29)); (case aB => exact (bp HB.out)); (case aF => exact (fun _ _ => trivial)); (case aO => exact (kr HO_7.out)); (case aS => exact (below_size (bp HB.out))); (case aL => have := LMc29.out; omega); intro v262 w32 ho hb hg hat; rw [← Ny261.out] at ho; have n0_ := Aside0.mk (blk_grown (g := gb251) (o := .cells #[.string a1_0, .string a1_1] 83 (0, 0)) (kb BK251.out) hg (Kd.R_ne HO_7.out BK251.out (by decide))); have n1_ := Aside0.mk (hb); have n2_ := Aside0.mk (ho); clear BK251; clear HB; clear HO_7; have BK251 := n0_; have HB := n1_; have HO263 := n2_; clear n0_ n1_ n2_; clear ho hb hg hat))
                          go_roundg kj20
                          case measure => have := HJ3.out; have := HK2.out; have := HJ20.out; omega
                          case rel => exact ⟨(y261), (wrap64 (x8_2 + 1)), (by first | rfl | (simp; done) | (simp [*]; done) | (simp [bne_nil_, beq_nil_]; done)), H', ⟨by have := HJ3.out; have := HK2.out; have := HJ20.out; omega⟩, ⟨by (with_reducible repeat (first | apply Kd.R_alloc | apply Kd.R_drewN | apply Kd.R_drew)); exact HO263.out⟩, ⟨kb BK251.out⟩, ⟨bp HB.out⟩⟩
                        · rw [if_neg c29] at H
                          exact absurd H (by simp)
                      · replace c28 := Bool.eq_false_iff.mpr c28
                        subst c28
                        have H1 : (spec_PairScan.l0 kj20 l0 a2 x7_2 (wrap64 (x8_2 + 1)) a1_0 a1_1) = some r := by rw [if_neg (show ¬ (false = true) by decide)] at H; exact H
                        clear H
                        have H := H1
                        clear H1
                        have H' := Aside0.mk H
                        clear H
                        try go_wp2
                        have n0_ := Aside0.mk (Kd.R_drew HO_7.out)
                        have n1_ := Aside0.mk (blk_drew BK251.out)
                        have n2_ := Aside0.mk (below_drew1 HB.out)
                        clear HO_7
                        clear BK251
                        clear HB
                        have HO_7 := n0_
                        have BK251 := n1_
                        have HB := n2_
                        clear n0_ n1_ n2_
                        have p258 : 0 ≤ (x8_2 : Int) := of_decide_eq_true (by first | (with_reducible assumption) | assumption)
                        have q258 : x8_2 < (l0.length : Int) := of_decide_eq_true (by first | (with_reducible assumption) | assumption)
                        obtain ⟨ad258, e258, hx258_0, hx258_1⟩ := at_T29 HR0.out x8_2 p258 q258
                        have hw258_1 := hx258_1
                        have hw258_0 := hx258_0
                        cases e258
                        replace hx258_0 := hcx HB hx258_0
                        replace hx258_1 := hcx HB hx258_1
                        replace p258 := eq_true p258
                        replace q258 := eq_true q258
                        refine start_ (n := 7) (S := fun w' => w'.cell? ⟨gb251, 0, none⟩ = some (.string a1_0) ∧ w'.cell? ⟨gb251, 1, none⟩ = some (.string a1_1) ∧ w'.cell? (ad258.add ((x8_2).toNat * 2)) = some (.string ((rd_T29 l0 x8_2).f0)) ∧ w'.cell? ⟨(ad258.add ((x8_2).toNat * 2)).block, (ad258.add ((x8_2).toNat * 2)).off + 1, none⟩ = some (.int .i64 ((rd_T29 l0 x8_2).f1))) (ds := []) #[false, false, false, false, false, false, false] (by kernel_rfl) rfl rfl ⟨(blk_cell BK251.out 0).trans rfl, (blk_cell BK251.out 1).trans rfl, (hcx HB hw258_0), (hcx HB hw258_1)⟩ (fun hHeld => ?_)
                        generalize wc.drew = w33 at HO_7 BK251 HB hx258_0 hx258_1 hHeld ⊢
                        refine pure_ (i := 1) (N := some 37) (v := ?_) (a' := ?_) #[false, true, false, false, false, false, false] rfl rfl (by kernel_rfl) (fun _ _ _ h => h) (Or.inl ⟨by rfl, ?_⟩) ?_ ?_
                        rotate_left; focus (intro w'; go_simp; with_reducible rfl)
                        rotate_left; focus (simp only [Act.put, List.setIfInBounds_toArray, List.set_cons_zero, List.set_cons_succ, i64_w, i32_w]; rfl)
                        refine pure_ (i := 2) (N := some 38) (v := ?_) (a' := ?_) #[false, true, true, false, false, false, false] rfl rfl (by kernel_rfl) (fun _ _ _ h => h) (Or.inl ⟨by rfl, ?_⟩) ?_ ?_
                        rotate_left; focus (intro w'; go_simp; with_reducible rfl)
                        rotate_left; focus (simp only [Act.put, List.setIfInBounds_toArray, List.set_cons_zero, List.set_cons_succ, i64_w, i32_w]; rfl)
                        refine pure_ (i := 3) (N := some 39) (v := ?_) (a' := ?_) #[false, true, true, true, false, false, false] rfl rfl (by kernel_rfl) (fun _ _ _ h => h) (Or.inl ⟨by rfl, ?_⟩) ?_ ?_
                        rotate_left; focus (intro w'; go_simp; with_reducible rfl)
                        rotate_left; focus (simp only [Act.put, List.setIfInBounds_toArray, List.set_cons_zero, List.set_cons_succ, i64_w, i32_w]; rfl)
                        refine pure_ (i := 4) (N := some 40) (v := ?_) (a' := ?_) #[false, true, true, true, true, false, false] rfl rfl (by kernel_rfl) (fun _ _ _ h => h) (Or.inl ⟨by rfl, ?_⟩) ?_ ?_
                        rotate_left; focus (intro w'; go_simp; with_reducible rfl)
                        rotate_left; focus (simp only [Act.put, List.setIfInBounds_toArray, List.set_cons_zero, List.set_cons_succ, i64_w, i32_w]; rfl)
                        refine take_ (i := 0) (N := some 36) (v := ?_) (a' := ?_) #[true, true, true, true, true, false, false] rfl rfl (by kernel_rfl) (fun _ _ _ h => h) (Or.inl ⟨by rfl, ?_⟩) hHeld ?_ ?_
                        rotate_left
                        · rintro w' ⟨s0, s1, s2, s3⟩
                          go_simp
                          with_reducible rfl
                        rotate_left; focus (simp only [Act.put, List.setIfInBounds_toArray, List.set_cons_zero, List.set_cons_succ, i64_w, i32_w]; rfl)
                        refine take_ (i := 5) (N := some 41) (v := ?_) (a' := ?_) #[true, true, true, true, true, true, false] rfl rfl (by kernel_rfl) (fun _ _ _ h => h) (Or.inl ⟨by rfl, ?_⟩) hHeld ?_ ?_
                        rotate_left
                        · rintro w' ⟨s0, s1, s2, s3⟩
                          go_simp
                          with_reducible rfl
                        rotate_left; focus (simp only [Act.put, List.setIfInBounds_toArray, List.set_cons_zero, List.set_cons_succ, i64_w, i32_w]; rfl)
                        refine one_ (i := 6) (N := some 42) #[true, true, true, true, true, true, true] rfl rfl (by kernel_rfl) (by decide) (fun K hK => ?_)
                        refine goes_ Try.func161 (by kernel_rfl) rfl #[.agg #[.string a1_0, .string a1_1], .string ((rd_T29 l0 x8_2).f0)] (by rfl) rfl rfl (by (try simp only [List.map_toArray, List.map_cons, List.map_nil]); first | done | rfl | (simp only [List.length_drop, List.length_take]; rfl)) ?_
                        with_reducible refine (spec_IntervalHas.calls kj20 a1_0 a1_1 ((rd_T29 l0 x8_2).f0) false _ A27.out).mono ?_
                        rintro e w34 ⟨rfl, hb⟩
                        refine ⟨_, rfl, ?_⟩
                        have n0_ := Aside0.mk (Kd.R_below (kr HO_7.out) hb)
                        have n1_ := an1 BK251 hb
                        have n2_ := an0 HB hb
                        clear HO_7
                        clear BK251
                        clear HB
                        have HO_7 := n0_
                        have BK251 := n1_
                        have HB := n2_
                        clear n0_ n1_ n2_
                        (try clear hb)
                        (try clear hb2)
                        (try clear hk)
                        (try clear hi)
                        refine hK.out _ _ ⟨(blk_cell BK251.out 0).trans rfl, (blk_cell BK251.out 1).trans rfl, (hcx HB hw258_0), (hcx HB hw258_1)⟩ (fun hHeld => ?_)
                        clear hK K
                        refine norm_ (a' := ?_) ?_ ?_
                        rotate_left
                        · show Act.put _ (some 42) _ = _
                          simp only [Act.put, List.setIfInBounds_toArray, List.set_cons_zero, List.set_cons_succ, i64_w, i32_w]
                          rfl
                        refine done_ (by kernel_rfl) ?_
                        try go_wp2
                        go_roundg kj20
                        case measure => have := HJ3.out; have := HK2.out; have := HJ20.out; omega
                        case rel => exact ⟨(x7_2), (wrap64 (x8_2 + 1)), (by first | rfl | (simp; done) | (simp [*]; done) | (simp [bne_nil_, beq_nil_]; done)), H', ⟨by have := HJ3.out; have := HK2.out; have := HJ20.out; omega⟩, ⟨by (with_reducible repeat (first | apply Kd.R_alloc | apply Kd.R_drewN | apply Kd.R_drew)); exact HO_7.out⟩, ⟨kb BK251.out⟩, ⟨bp HB.out⟩⟩
                    · rw [if_neg c26] at H
                      exact absurd H (by simp)
                  · rw [if_neg c25] at H
                    exact absurd H (by simp)
                · replace c24 := Bool.eq_false_iff.mpr c24
                  subst c24
                  have H1 : (some x7_2) = some r := by rw [if_neg (show ¬ (false = true) by decide)] at H; exact H
                  clear H
                  have H := H1
                  clear H1
                  obtain rfl := Option.some.inj H
                  go_wp2
                  go_ret
                  exact ⟨_, fe, by (with_reducible repeat (first | apply Kd.R_alloc | apply Kd.R_drewN | apply Kd.R_drew)); exact HO_7.out, bp HB.out⟩

/-! ### spec_PairsIn: function 105 -/
def spec_PairsIn.f (k : Nat) (l0 : List (S29)) (a1_0 : ByteArray) (a1_1 : ByteArray) : Option ((List (S29))) := (spec_PairScan.f k l0 a1_0 a1_1 48).bind fun t265 => (some t265)
theorem spec_PairsIn.mono : ∀ a0 a1 a2 k, LeO (spec_PairsIn.f k a0 a1 a2) (spec_PairsIn.f (k + 1) a0 a1 a2) := by
  intro a0 a1 a2 k
  unfold spec_PairsIn.f
  repeat' first
      | (with_reducible exact spec_PairScan.mono _ _ _ _ _)
      | (with_reducible exact LeO.refl _)
      | (with_reducible exact LeO.none _)
      | (with_reducible refine LeO.ite ?_ ?_)
      | (with_reducible refine LeO.bind ?_ (fun _ => ?_))
      | exact spec_PairScan.mono _ _ _ _ _
      | exact LeO.none _
      | refine LeO.ite ?_ ?_
      | refine LeO.bind ?_ (fun _ => ?_)
set_option maxHeartbeats 8000000 in
set_option maxRecDepth 100000 in
theorem spec_PairsIn.calls (k : Nat) (A0 : Option Addr) (c0 : Nat) (l0 : List (S29)) (a1_0 : ByteArray) (a1_1 : ByteArray) (r : List (S29)) (w : World) (hr0 : Kd.C k29 w A0 l0.length l0) (hc0 : l0.length ≤ c0) (h : spec_PairsIn.f k l0 a1_0 a1_1 = some r) :
    Calls Try.prog 105 #[.slice A0 l0.length c0, .agg #[.string a1_0, .string a1_1]] w fun e w' => ∃ v0_ : Value, e = .returned (v0_) ∧ Kd.R k29 29 w' w.heap.size (fun _ => True) v0_ r ∧ Below w.heap.size w w' := by
  have hu83 := Try.underlying83
  have HR0 := Aside0.mk hr0
  have HC0 := Aside0.mk hc0
  clear hr0 hc0
  have HB := Aside0.mk (Below.refl w.heap.size w)
  have H : ((spec_PairScan.f k l0 a1_0 a1_1 48).bind fun t265 => (some t265)) = some r := h
  clear h
  replace H := Option.bind_eq_some_iff.mp H
  obtain ⟨t265, A30, H⟩ := H
  replace H : (some t265) = some r := H
  have A3 := Aside0.mk A30
  clear A30
  obtain rfl := Option.some.inj H
  go_enter Try.func105, Try.ntmps105
  go_wp2_with (first | ((with_reducible refine gate_dst (N := 3) rfl ?_); refine bxe (N := 3) (cs := #[.string a1_0, .string a1_1]) (t := 83) ?_; intro gb264 hg w4 hbox hb; have BK264 := Aside0.mk (hbox); have GW264 := an2 HB hg; have GE264 := an2 HB hg; replace HB := an0 HB hb; clear hb hbox hg; obtain ⟨hcz5_0, hcz5_1, hfz5_0, hfz5_1⟩ := cl2 BK264) | ((with_reducible refine gate_callee (f := 142) rfl ?_); refine gsl (some 7) rfl Try.func142 #[.slice A0 l0.length c0, .agg #[.string a1_0, .string a1_1], .int .i64 48] rfl ?_; (with_reducible refine (spec_PairScan.calls k _ _ l0 a1_0 a1_1 48 t265 _ ?side1 ?side2 A3.out).mono ?_); (case side1 => exact cc (Kd.C_below HR0.out HB.out)); (case side2 => exact HC0.out); rintro e w6 ⟨v266, rfl, ho0, hb⟩; refine ⟨_, rfl, ?_⟩; have n0_ := Aside0.mk (Kd.R_lower ho0 (below_size (bp HB.out))); have n1_ := an1 BK264 hb; have n2_ := an0 HB hb; clear BK264; clear HB; have HO267 := n0_; have BK264 := n1_; have HB := n2_; clear n0_ n1_ n2_; (try clear hb); (try clear hb2); (try clear hk); (try clear hi); (try clear ho0)))
  go_ret
  exact ⟨_, fe, by (with_reducible repeat (first | apply Kd.R_alloc | apply Kd.R_drewN | apply Kd.R_drew)); exact HO267.out, bp HB.out⟩

/-! ### spec_PartDigests: function 39 -/
mutual
def spec_PartDigests.j0 : Nat → List (S29) → List (S83) → List Int → Bool → Option (List Int)
  | 0, _, _, _, _ => none
  | k + 1, x0, x1, x5, x15 => if x15 = true then (some x5) else (spec_PartDigests.l0 k x0 x1 x5 0)
def spec_PartDigests.l0 : Nat → List (S29) → List (S83) → List Int → Int → Option (List Int)
  | 0, _, _, _, _ => none
  | k + 1, x0, x1, x5, x6 => if x6 < (x1.length : Int) then (if 0 ≤ x6 then ((spec_PairsIn.f k x0 ((rd_T83 x1 x6).f0) ((rd_T83 x1 x6).f1)).bind fun t274 => ((spec_PairsDigest.f k t274).bind fun t277 => (if x5.length < 17592186044416 then (spec_PartDigests.l0 k x0 x1 (x5 ++ [t277]) (wrap64 (x6 + 1))) else (none)))) else (none)) else (some x5)
end
def spec_PartDigests.f (k : Nat) (l0 : List (S29)) (l1 : List (S83)) : Option (List Int) := (some (([] : List Int) : List Int)).bind fun y268 => ((spec_PairsValid.f k l0).bind fun t271 => (if t271 = true then ((spec_PartitionValid.f k l1).bind fun t272 => (spec_PartDigests.j0 k l0 l1 y268 (!t272))) else (spec_PartDigests.j0 k l0 l1 y268 true)))
theorem spec_PartDigests.mono_l : ∀ k, (∀ y0 y1 y2 y3, LeO (spec_PartDigests.j0 k y0 y1 y2 y3) (spec_PartDigests.j0 (k + 1) y0 y1 y2 y3)) ∧ (∀ y0 y1 y2 y3, LeO (spec_PartDigests.l0 k y0 y1 y2 y3) (spec_PartDigests.l0 (k + 1) y0 y1 y2 y3))
  | 0 => ⟨fun _ _ _ _ r h => by simp [spec_PartDigests.j0] at h, fun _ _ _ _ r h => by simp [spec_PartDigests.l0] at h⟩
  | k + 1 => by
    obtain ⟨ih0, ih1⟩ := spec_PartDigests.mono_l k
    refine ⟨?_, ?_⟩
    · intro y0 y1 y2 y3
      unfold spec_PartDigests.j0
      repeat' first
      | (with_reducible exact ih0 _ _ _ _)
      | (with_reducible exact ih1 _ _ _ _)
      | (with_reducible exact spec_PairsDigest.mono _ _)
      | (with_reducible exact spec_PairsIn.mono _ _ _ _)
      | (with_reducible exact spec_PairsValid.mono _ _)
      | (with_reducible exact spec_PartitionValid.mono _ _)
      | (with_reducible exact LeO.refl _)
      | (with_reducible exact LeO.none _)
      | (with_reducible refine LeO.ite ?_ ?_)
      | (with_reducible refine LeO.bind ?_ (fun _ => ?_))
      | exact ih0 _ _ _ _
      | exact ih1 _ _ _ _
      | exact spec_PairsDigest.mono _ _
      | exact spec_PairsIn.mono _ _ _ _
      | exact spec_PairsValid.mono _ _
      | exact spec_PartitionValid.mono _ _
      | exact LeO.none _
      | refine LeO.ite ?_ ?_
      | refine LeO.bind ?_ (fun _ => ?_)
    · intro y0 y1 y2 y3
      unfold spec_PartDigests.l0
      repeat' first
      | (with_reducible exact ih0 _ _ _ _)
      | (with_reducible exact ih1 _ _ _ _)
      | (with_reducible exact spec_PairsDigest.mono _ _)
      | (with_reducible exact spec_PairsIn.mono _ _ _ _)
      | (with_reducible exact spec_PairsValid.mono _ _)
      | (with_reducible exact spec_PartitionValid.mono _ _)
      | (with_reducible exact LeO.refl _)
      | (with_reducible exact LeO.none _)
      | (with_reducible refine LeO.ite ?_ ?_)
      | (with_reducible refine LeO.bind ?_ (fun _ => ?_))
      | exact ih0 _ _ _ _
      | exact ih1 _ _ _ _
      | exact spec_PairsDigest.mono _ _
      | exact spec_PairsIn.mono _ _ _ _
      | exact spec_PairsValid.mono _ _
      | exact spec_PartitionValid.mono _ _
      | exact LeO.none _
      | refine LeO.ite ?_ ?_
      | refine LeO.bind ?_ (fun _ => ?_)
theorem spec_PartDigests.mono : ∀ a0 a1 k, LeO (spec_PartDigests.f k a0 a1) (spec_PartDigests.f (k + 1) a0 a1) := by
  intro a0 a1 k
  obtain ⟨ih0, ih1⟩ := spec_PartDigests.mono_l k
  unfold spec_PartDigests.f
  repeat' first
      | (with_reducible exact ih0 _ _ _ _)
      | (with_reducible exact ih1 _ _ _ _)
      | (with_reducible exact spec_PairsDigest.mono _ _)
      | (with_reducible exact spec_PairsIn.mono _ _ _ _)
      | (with_reducible exact spec_PairsValid.mono _ _)
      | (with_reducible exact spec_PartitionValid.mono _ _)
      | (with_reducible exact LeO.refl _)
      | (with_reducible exact LeO.none _)
      | (with_reducible refine LeO.ite ?_ ?_)
      | (with_reducible refine LeO.bind ?_ (fun _ => ?_))
      | exact ih0 _ _ _ _
      | exact ih1 _ _ _ _
      | exact spec_PairsDigest.mono _ _
      | exact spec_PairsIn.mono _ _ _ _
      | exact spec_PairsValid.mono _ _
      | exact spec_PartitionValid.mono _ _
      | exact LeO.none _
      | refine LeO.ite ?_ ?_
      | refine LeO.bind ?_ (fun _ => ?_)
set_option maxHeartbeats 8000000 in
set_option maxRecDepth 100000 in
theorem spec_PartDigests.calls (k : Nat) (A0 : Option Addr) (c0 : Nat) (l0 : List (S29)) (A1 : Option Addr) (c1 : Nat) (l1 : List (S83)) (r : List Int) (w : World) (hr0 : Kd.C k29 w A0 l0.length l0) (hc0 : l0.length ≤ c0) (hr1 : Kd.C k83 w A1 l1.length l1) (hc1 : l1.length ≤ c1) (h : spec_PartDigests.f k l0 l1 = some r) :
    Calls Try.prog 39 #[.slice A0 l0.length c0, .slice A1 l1.length c1] w fun e w' => ∃ v0_ : Value, e = .returned (v0_) ∧ Kd.R (Kd.int .i64) 3 w' w.heap.size (fun _ => True) v0_ r ∧ Below w.heap.size w w' := by
  have hu83 := Try.underlying83
  have HR0 := Aside0.mk hr0
  have HC0 := Aside0.mk hc0
  clear hr0 hc0
  have HR1 := Aside0.mk hr1
  have HC1 := Aside0.mk hc1
  clear hr1 hc1
  have HB := Aside0.mk (Below.refl w.heap.size w)
  have H : ((some (([] : List Int) : List Int)).bind fun y268 => ((spec_PairsValid.f k l0).bind fun t271 => (if t271 = true then ((spec_PartitionValid.f k l1).bind fun t272 => (spec_PartDigests.j0 k l0 l1 y268 (!t272))) else (spec_PartDigests.j0 k l0 l1 y268 true)))) = some r := h
  clear h
  obtain ⟨y268, hy268⟩ : ∃ y_ : List Int, y_ = (([] : List Int)) := ⟨_, rfl⟩
  replace H : ((spec_PairsValid.f k l0).bind fun t271 => (if t271 = true then ((spec_PartitionValid.f k l1).bind fun t272 => (spec_PartDigests.j0 k l0 l1 y268 (!t272))) else (spec_PartDigests.j0 k l0 l1 y268 true))) = some r := by first | (rw [hy268]; with_reducible exact H) | (have H2_ := (Option.bind_some _ _).symm.trans H; rw [hy268]; with_reducible exact H2_) | (have H2_ := (Option.bind_some _ _).symm.trans H; with_reducible exact H2_) | with_reducible exact H | (rw [hy268]; exact H) | exact H
  have Ny268 := Aside0.mk hy268
  clear hy268
  have HC3 := Aside0.mk H
  clear H
  go_enter Try.func39, Try.ntmps39
  go_upto_region 2 with (first | ((with_reducible refine gate_dst (N := 7) rfl ?_); refine Kd.R_lit (Kd.int .i64) _ 3 ?hg (N := 7) ?hd (xs := ([] : List Int)) (inner := []) (ok := fun _ => True) (okp := fun _ => True) ?hr ?hp (fun _ hk => hk) trivial (Below.refl _ _) (Nat.le_refl _) (by simp) ?_; (case hd => rfl); (case hg => rfl); (case hr => first | (go_simp; done) | (go_simp; rfl)); (case hp => exact (Reps.none _ _)); intro v269 w4 ho5 hb hg_ hnew_; clear hg_ hnew_; (first | rw [← Ny268.out] at ho5 | (simp only [Int.reduceToNat] at ho5; rw [← Ny268.out] at ho5)); have n0_ := Aside0.mk (Kd.R_lower ho5 (below_size (bp HB.out))); have n1_ := an0 HB hb; clear HB; have HO270 := n0_; have HB := n1_; clear n0_ n1_; clear hb ho5))
  (try simp only [Act.put, List.setIfInBounds_toArray, List.set_cons_zero, List.set_cons_succ])
  go_cut [15] (fun v15 wc => ∃ (kq : Nat) (x15_2 : Bool), v15 = .bool x15_2 ∧ Aside0 (spec_PartDigests.j0 kq l0 l1 y268 x15_2 = some r) ∧ Aside0 (kq ≤ k) ∧ Aside0 (Kd.R (Kd.int .i64) 3 wc w.heap.size (fun _ => True) v269 y268) ∧ Aside0 (Below w.heap.size w wc))
  case first =>
    have H := HC3.out
    clear HC3
    replace H := Option.bind_eq_some_iff.mp H
    obtain ⟨t271, A60, H⟩ := H
    replace H : (if t271 = true then ((spec_PartitionValid.f k l1).bind fun t272 => (spec_PartDigests.j0 k l0 l1 y268 (!t272))) else (spec_PartDigests.j0 k l0 l1 y268 true)) = some r := H
    have A6 := Aside0.mk A60
    clear A60
    by_cases c7 : t271 = true
    · subst c7
      have H1 : ((spec_PartitionValid.f k l1).bind fun t272 => (spec_PartDigests.j0 k l0 l1 y268 (!t272))) = some r := by rw [if_pos rfl] at H; exact H
      clear H
      have H := H1
      clear H1
      replace H := Option.bind_eq_some_iff.mp H
      obtain ⟨t272, A80, H⟩ := H
      replace H : (spec_PartDigests.j0 k l0 l1 y268 (!t272)) = some r := H
      have A8 := Aside0.mk A80
      clear A80
      have H' := Aside0.mk H
      clear H
      go_wp2_with (first | ((with_reducible refine gate_callee (f := 72) rfl ?_); refine gsl (some 9) rfl Try.func72 #[.slice A0 l0.length c0] rfl ?_; (with_reducible refine (spec_PairsValid.calls k _ _ l0 true _ ?side1 ?side2 A6.out).mono ?_); (case side1 => exact cc (Kd.C_below HR0.out HB.out)); (case side2 => exact HC0.out); rintro e w9 ⟨rfl, hb⟩; refine ⟨_, rfl, ?_⟩; have n0_ := Aside0.mk (Kd.R_below (kr HO270.out) hb); have n1_ := an0 HB hb; clear HO270; clear HB; have HO270 := n0_; have HB := n1_; clear n0_ n1_; (try clear hb); (try clear hb2); (try clear hk); (try clear hi)) | (go_at_call 104; (with_reducible refine (spec_PartitionValid.calls k _ _ l1 t272 _ ?side1 ?side2 A8.out).mono ?_); (case side1 => exact cc (Kd.C_below HR1.out HB.out)); (case side2 => exact HC1.out); rintro e w10 ⟨rfl, hb⟩; have n0_ := Aside0.mk (Kd.R_below (kr HO270.out) hb); have n1_ := an0 HB hb; clear HO270; clear HB; have HO270 := n0_; have HB := n1_; clear n0_ n1_; (try clear hb); (try clear hb2); (try clear hk); (try clear hi)))
      go_meet
      case rel => exact ⟨_, (!t272), (by first | rfl | (simp; done) | (simp [*]; done) | (simp [bne_nil_, beq_nil_]; done)), H', ⟨by first | omega | exact Nat.le_refl _⟩, ⟨by (with_reducible repeat (first | apply Kd.R_alloc | apply Kd.R_drewN | apply Kd.R_drew)); exact HO270.out⟩, ⟨bp HB.out⟩⟩
    · replace c7 := Bool.eq_false_iff.mpr c7
      subst c7
      have H1 : (spec_PartDigests.j0 k l0 l1 y268 true) = some r := by rw [if_neg (show ¬ (false = true) by decide)] at H; exact H
      clear H
      have H := H1
      clear H1
      have H' := Aside0.mk H
      clear H
      go_wp2_with (first | ((with_reducible refine gate_callee (f := 72) rfl ?_); refine gsl (some 9) rfl Try.func72 #[.slice A0 l0.length c0] rfl ?_; (with_reducible refine (spec_PairsValid.calls k _ _ l0 false _ ?side1 ?side2 A6.out).mono ?_); (case side1 => exact cc (Kd.C_below HR0.out HB.out)); (case side2 => exact HC0.out); rintro e w11 ⟨rfl, hb⟩; refine ⟨_, rfl, ?_⟩; have n0_ := Aside0.mk (Kd.R_below (kr HO270.out) hb); have n1_ := an0 HB hb; clear HO270; clear HB; have HO270 := n0_; have HB := n1_; clear n0_ n1_; (try clear hb); (try clear hb2); (try clear hk); (try clear hi)))
      go_meet
      case rel => exact ⟨_, (true), (by first | rfl | (simp; done) | (simp [*]; done) | (simp [bne_nil_, beq_nil_]; done)), H', ⟨by first | omega | exact Nat.le_refl _⟩, ⟨by (with_reducible repeat (first | apply Kd.R_alloc | apply Kd.R_drewN | apply Kd.R_drew)); exact HO270.out⟩, ⟨bp HB.out⟩⟩
  case rest =>
    clear HC3
    try clear c1
    try clear p2
    try clear c3
    try clear c7
    obtain ⟨kq, x15_2, rfl, HA, HJ2, HO_5, HB⟩ := hcut
    cases kq with
    | zero => exact absurd HA.out (by simp [spec_PartDigests.j0])
    | succ kj2 =>
      have H := HA.out
      clear HA
      simp only [spec_PartDigests.j0] at H
      by_cases c12 : x15_2 = true
      · subst c12
        have H1 : (some y268) = some r := by rw [if_pos rfl] at H; exact H
        clear H
        have H := H1
        clear H1
        obtain rfl := Option.some.inj H
        go_wp2
        go_ret
        exact ⟨_, fe, by (with_reducible repeat (first | apply Kd.R_alloc | apply Kd.R_drewN | apply Kd.R_drew)); exact HO_5.out, bp HB.out⟩
      · replace c12 := Bool.eq_false_iff.mpr c12
        subst c12
        have H1 : (spec_PartDigests.l0 kj2 l0 l1 y268 0) = some r := by rw [if_neg (show ¬ (false = true) by decide)] at H; exact H
        clear H
        have H := H1
        clear H1
        have H' := Aside0.mk H
        clear H
        go_wp2
        go_loopg [5, 6] kj2 (fun kq v5 v6 w' => ∃ (x5_2 : List Int) (x6_2 : Int), v6 = .int .i64 x6_2 ∧ Aside0 (spec_PartDigests.l0 kq l0 l1 x5_2 x6_2 = some r) ∧ Aside0 (kq ≤ kj2) ∧ Aside0 (Kd.R (Kd.int .i64) 3 w' w.heap.size (fun _ => True) v5 x5_2) ∧ Aside0 (Below w.heap.size w w'))
        case atStart => exact ⟨(y268), (0), (by first | rfl | (simp; done) | (simp [*]; done) | (simp [bne_nil_, beq_nil_]; done)), H', ⟨Nat.le_refl _⟩, ⟨by (with_reducible repeat (first | apply Kd.R_alloc | apply Kd.R_drewN | apply Kd.R_drew)); exact HO_5.out⟩, ⟨bp HB.out⟩⟩
        case round =>
          clear H'
          try clear c1
          try clear p2
          try clear c3
          try clear p6
          try clear c7
          try clear c12
          try clear p2
          obtain ⟨x5_2, x6_2, rfl, HA, HK2, HO_5, HB⟩ := hrel
          cases gk with
          | zero => exact absurd HA.out (by simp [spec_PartDigests.l0])
          | succ k2 =>
            have H := HA.out
            clear HA
            simp only [spec_PartDigests.l0] at H
            by_cases c13 : x6_2 < (l1.length : Int)
            · rw [if_pos c13] at H
              have c13b0 : decide (x6_2 < (l1.length : Int)) = true := decide_eq_true c13
              clear c13
              by_cases c14 : 0 ≤ x6_2
              · rw [if_pos c14] at H
                have c14b0 : decide (0 ≤ x6_2) = true := decide_eq_true c14
                clear c14
                replace H := Option.bind_eq_some_iff.mp H
                obtain ⟨t274, A150, H⟩ := H
                replace H : ((spec_PairsDigest.f k2 t274).bind fun t277 => (if x5_2.length < 17592186044416 then (spec_PartDigests.l0 k2 l0 l1 (x5_2 ++ [t277]) (wrap64 (x6_2 + 1))) else (none))) = some r := H
                have A15 := Aside0.mk A150
                clear A150
                replace H := Option.bind_eq_some_iff.mp H
                obtain ⟨t277, A160, H⟩ := H
                replace H : (if x5_2.length < 17592186044416 then (spec_PartDigests.l0 k2 l0 l1 (x5_2 ++ [t277]) (wrap64 (x6_2 + 1))) else (none)) = some r := H
                have A16 := Aside0.mk A160
                clear A160
                by_cases c17 : x5_2.length < 17592186044416
                · rw [if_pos c17] at H
                  have LMc17 := Aside0.mk c17
                  clear c17
                  obtain ⟨y278, hy278⟩ : ∃ y_ : List Int, y_ = (x5_2 ++ [t277]) := ⟨_, rfl⟩
                  replace H : (spec_PartDigests.l0 k2 l0 l1 y278 (wrap64 (x6_2 + 1))) = some r := by first | (rw [hy278]; with_reducible exact H) | (have H2_ := (Option.bind_some _ _).symm.trans H; rw [hy278]; with_reducible exact H2_) | (have H2_ := (Option.bind_some _ _).symm.trans H; with_reducible exact H2_) | with_reducible exact H | (rw [hy278]; exact H) | exact H
                  have Ny278 := Aside0.mk hy278
                  clear hy278
                  have H' := Aside0.mk H
                  clear H
                  have p273 : 0 ≤ (x6_2 : Int) := of_decide_eq_true (by first | (with_reducible assumption) | assumption)
                  have q273 : x6_2 < (l1.length : Int) := of_decide_eq_true (by first | (with_reducible assumption) | assumption)
                  obtain ⟨ad273, e273, hx273_0, hx273_1⟩ := at_T83 HR1.out x6_2 p273 q273
                  cases e273
                  replace hx273_0 := hcx HB hx273_0
                  replace hx273_1 := hcx HB hx273_1
                  replace p273 := eq_true p273
                  replace q273 := eq_true q273
                  go_wp2_with (first | ((with_reducible refine gate_callee (f := 105) rfl ?_); refine gsl (some 29) rfl Try.func105 #[.slice A0 l0.length c0, .agg #[.string ((rd_T83 l1 x6_2).f0), .string ((rd_T83 l1 x6_2).f1)]] rfl ?_; (with_reducible refine (spec_PairsIn.calls k2 _ _ l0 ((rd_T83 l1 x6_2).f0) ((rd_T83 l1 x6_2).f1) t274 _ ?side1 ?side2 A15.out).mono ?_); (case side1 => exact cc (Kd.C_below HR0.out HB.out)); (case side2 => exact HC0.out); rintro e w18 ⟨v275, rfl, ho0, hb⟩; refine ⟨_, rfl, ?_⟩; have n0_ := Aside0.mk (Kd.R_below (kr HO_5.out) hb); have n1_ := Aside0.mk (Kd.R_lower ho0 (below_size (bp HB.out))); have n2_ := an0 HB hb; clear HO_5; clear HB; have HO_5 := n0_; have HO276 := n1_; have HB := n2_; clear n0_ n1_ n2_; (try clear hb); (try clear hb2); (try clear hk); (try clear hi); (try clear ho0); obtain ⟨Ao19, co19, eo19⟩ := Kd.R_slice HO276.out; subst eo19) | ((with_reducible refine gate_callee (f := 16) rfl ?_); refine gsl (some 30) rfl Try.func16 #[.slice Ao19 t274.length co19] rfl ?_; (with_reducible refine (spec_PairsDigest.calls k2 _ _ t274 t277 _ ?side1 ?side2 A16.out).mono ?_); (case side1 => repeat (first | exact (Kd.R_reads' HO276.out).2.2 | (with_reducible refine Kd.C_alloc ?_ _) | (with_reducible refine Kd.C_drewN ?_ _) | (with_reducible refine Kd.C_drew ?_))); (case side2 => exact (Kd.R_reads' HO276.out).2.1); rintro e w20 ⟨rfl, hb⟩; refine ⟨_, rfl, ?_⟩; have n0_ := Aside0.mk (Kd.R_below (kr HO_5.out) hb); have n1_ := Aside0.mk (Kd.R_below (kr HO276.out) hb); have n2_ := an0 HB hb; clear HO_5; clear HO276; clear HB; have HO_5 := n0_; have HO276 := n1_; have HB := n2_; clear n0_ n1_ n2_; (try clear hb); (try clear hb2); (try clear hk); (try clear hi)) | ((with_reducible refine gate_builtin (b := .append) (xs := #[.tmp 23, .tmp 31]) rfl ?_); at_builtin; refine Kd.R_append (Kd.int .i64) (w0 := w) w.heap.size rfl (.tmp 23) (.tmp 31) 33 3 (.int .i64 0) 8 rfl Try.underlying33 info3 rfl (by decide) (by omega) u5 x5_2 t277 [.int .i64 t277] (fun _ => True) (fun _ => False) rfl rfl ?aP (fun _ hk => hk.elim) ?aF ?aO ?aB ?aS ?aL ?_; (case aP => exact rfl); (case aB => exact (bp HB.out)); (case aF => exact (fun _ _ => trivial)); (case aO => exact (kr HO_5.out)); (case aS => exact (below_size (bp HB.out))); (case aL => have := LMc17.out; omega); intro v279 w21 ho hb hg hat; rw [← Ny278.out] at ho; have n0_ := Aside0.mk (Kd.R_over' (kr HO276.out) (Kd.R_typed (kr HO_5.out)) (by decide) hg); have n1_ := Aside0.mk (hb); have n2_ := Aside0.mk (ho); clear HO276; clear HB; clear HO_5; have HO276 := n0_; have HB := n1_; have HO280 := n2_; clear n0_ n1_ n2_; clear ho hb hg hat))
                  go_roundg k2
                  case measure => have := HJ2.out; have := HK2.out; omega
                  case rel => exact ⟨(y278), (wrap64 (x6_2 + 1)), (by first | rfl | (simp; done) | (simp [*]; done) | (simp [bne_nil_, beq_nil_]; done)), H', ⟨by have := HJ2.out; have := HK2.out; omega⟩, ⟨by (with_reducible repeat (first | apply Kd.R_alloc | apply Kd.R_drewN | apply Kd.R_drew)); exact HO280.out⟩, ⟨bp HB.out⟩⟩
                · rw [if_neg c17] at H
                  exact absurd H (by simp)
              · rw [if_neg c14] at H
                exact absurd H (by simp)
            · rw [if_neg c13] at H
              have c13b0 : decide (x6_2 < (l1.length : Int)) = false := decide_eq_false c13
              clear c13
              obtain rfl := Option.some.inj H
              go_wp2
              go_ret
              exact ⟨_, fe, by (with_reducible repeat (first | apply Kd.R_alloc | apply Kd.R_drewN | apply Kd.R_drew)); exact HO_5.out, bp HB.out⟩

/-! ### laws_szInterval: function 108 -/
def laws_szInterval.f (a0_0 : ByteArray) (a0_1 : ByteArray) (a1 : Int) : Option (Int) := if (wrap64 (a1 - (a0_0.size : Int))) < 0 then (some (-1)) else (if (wrap64 ((wrap64 (a1 - (a0_0.size : Int))) - (a0_1.size : Int))) < 0 then (some (-1)) else (some (wrap64 ((wrap64 (a1 - (a0_0.size : Int))) - (a0_1.size : Int)))))
set_option maxHeartbeats 8000000 in
set_option maxRecDepth 100000 in
theorem laws_szInterval.calls (a0_0 : ByteArray) (a0_1 : ByteArray) (a1 : Int) (r : Int) (w : World) (h : laws_szInterval.f a0_0 a0_1 a1 = some r) :
    Calls Try.prog 108 #[.agg #[.string a0_0, .string a0_1], .int .i64 a1] w fun e w' => e = .returned (.int .i64 r) ∧ Below w.heap.size w w' := by
  have hu121 := Try.underlying121
  have HB := Aside0.mk (Below.refl w.heap.size w)
  have H : (if (wrap64 (a1 - (a0_0.size : Int))) < 0 then (some (-1)) else (if (wrap64 ((wrap64 (a1 - (a0_0.size : Int))) - (a0_1.size : Int))) < 0 then (some (-1)) else (some (wrap64 ((wrap64 (a1 - (a0_0.size : Int))) - (a0_1.size : Int)))))) = some r := h
  clear h
  by_cases c3 : (wrap64 (a1 - (a0_0.size : Int))) < 0
  · rw [if_pos c3] at H
    have c3b0 : decide ((wrap64 (a1 - (a0_0.size : Int))) < 0) = true := decide_eq_true c3
    clear c3
    obtain rfl := Option.some.inj H
    go_enter Try.func108, Try.ntmps108
    go_wp2_with (first | ((with_reducible refine gate_dst (N := 2) rfl ?_); refine bxe (N := 2) (cs := #[.string a0_0, .string a0_1]) (t := 121) ?_; intro gb281 hg w4 hbox hb; have BK281 := Aside0.mk (hbox); have GW281 := an2 HB hg; have GE281 := an2 HB hg; replace HB := an0 HB hb; clear hb hbox hg; obtain ⟨hcz5_0, hcz5_1, hfz5_0, hfz5_1⟩ := cl2 BK281))
    go_ret
    exact ⟨fe, bp HB.out⟩
  · rw [if_neg c3] at H
    have c3b0 : decide ((wrap64 (a1 - (a0_0.size : Int))) < 0) = false := decide_eq_false c3
    clear c3
    by_cases c6 : (wrap64 ((wrap64 (a1 - (a0_0.size : Int))) - (a0_1.size : Int))) < 0
    · rw [if_pos c6] at H
      have c6b0 : decide ((wrap64 ((wrap64 (a1 - (a0_0.size : Int))) - (a0_1.size : Int))) < 0) = true := decide_eq_true c6
      clear c6
      obtain rfl := Option.some.inj H
      go_enter Try.func108, Try.ntmps108
      go_wp2_with (first | ((with_reducible refine gate_dst (N := 2) rfl ?_); refine bxe (N := 2) (cs := #[.string a0_0, .string a0_1]) (t := 121) ?_; intro gb281 hg w7 hbox hb; have BK281 := Aside0.mk (hbox); have GW281 := an2 HB hg; have GE281 := an2 HB hg; replace HB := an0 HB hb; clear hb hbox hg; obtain ⟨hcz8_0, hcz8_1, hfz8_0, hfz8_1⟩ := cl2 BK281))
      go_ret
      exact ⟨fe, bp HB.out⟩
    · rw [if_neg c6] at H
      have c6b0 : decide ((wrap64 ((wrap64 (a1 - (a0_0.size : Int))) - (a0_1.size : Int))) < 0) = false := decide_eq_false c6
      clear c6
      obtain rfl := Option.some.inj H
      go_enter Try.func108, Try.ntmps108
      go_wp2_with (first | ((with_reducible refine gate_dst (N := 2) rfl ?_); refine bxe (N := 2) (cs := #[.string a0_0, .string a0_1]) (t := 121) ?_; intro gb281 hg w9 hbox hb; have BK281 := Aside0.mk (hbox); have GW281 := an2 HB hg; have GE281 := an2 HB hg; replace HB := an0 HB hb; clear hb hbox hg; obtain ⟨hcz10_0, hcz10_1, hfz10_0, hfz10_1⟩ := cl2 BK281))
      go_ret
      exact ⟨fe, bp HB.out⟩

end Go.Proofs.Ytfeeifefmenlmaa.PFnExactPartDigests
