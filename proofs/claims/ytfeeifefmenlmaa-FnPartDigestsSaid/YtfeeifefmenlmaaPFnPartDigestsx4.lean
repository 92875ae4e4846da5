-- Written by a program of this session, in the manner of the kit's print (wip/pp.py): functions and their contracts.
import Derived.Test.YtfeeifefmenlmaaPFnPartDigestsx0
import Derived.Test.YtfeeifefmenlmaaPFnPartDigestsx2
import Derived.Test.YtfeeifefmenlmaaPFnPartDigestsx3
namespace Go.Proofs.Ytfeeifefmenlmaa.PFnPartDigests
open Go.RowKit Go.Proofs.YtfeeifefmenlmaaW.PrintWords Go.Proofs.YtfeeifefmenlmaaW.PrintLast Go.Proofs.YtfeeifefmenlmaaW.PrintMore
attribute [local go_sem] binOp_leq_str binOp_gtr_str binOp_geq_str max2_int min2_int max_two min_two max_three min_three max_four min_four   -- for this text's walks alone
set_option linter.unusedVariables false
set_option linter.unusedSimpArgs false

/-! ### spec_PairPut: function 93 -/
mutual
def spec_PairPut.j0 : Nat → List (S29) → ByteArray → Int → List (S29) → Bool → Option ((List (S29)) × Bool)
  | 0, _, _, _, _, _ => none
  | k + 1, x0, x1, x2, x8, x23 => if x23 = true then (some (x8, false)) else ((spec_l4Place.f k x0 x1).bind fun t140 => (if t140 < (x0.length : Int) then (if 0 ≤ t140 then (spec_PairPut.j1 k x0 x1 x2 x8 t140 (((rd_T29 x0 t140).f0).toList == x1.toList)) else (none)) else (spec_PairPut.j1 k x0 x1 x2 x8 t140 false)))
def spec_PairPut.j1 : Nat → List (S29) → ByteArray → Int → List (S29) → Int → Bool → Option ((List (S29)) × Bool)
  | 0, _, _, _, _, _, _ => none
  | k + 1, x0, x1, x2, x8, x9, x40 => if x40 = true then (if x8.length + x0.length < 5864062014805 then ((some (x8 ++ x0 : List (S29))).bind fun y142 => (if 0 ≤ x9 then (if x9 < (y142.length : Int) then (some ((y142.set (x9 : Int).toNat (⟨(rd_T29 y142 x9).f0, x2⟩ : S29)), true)) else (none)) else (none))) else (none)) else (if (x0.length : Int) ≥ 48 then (if x8.length + x0.length < 5864062014805 then (some ((x8 ++ x0), false)) else (none)) else (if 0 ≤ x9 then (if x9 ≤ (x0.length : Int) then ((some (x0.take (x9 : Int).toNat : List (S29))).bind fun y149 => (if x8.length + y149.length < 5864062014805 then ((some (x8 ++ y149 : List (S29))).bind fun y153 => (if y153.length < 5864062014805 then ((some (y153 ++ [(⟨x1, x2⟩ : S29)] : List (S29))).bind fun y156 => ((some (x0.drop (x9 : Int).toNat : List (S29))).bind fun y159 => (if y156.length + y159.length < 5864062014805 then (some ((y156 ++ y159), true)) else (none)))) else (none))) else (none))) else (none)) else (none)))
end
def spec_PairPut.f (k : Nat) (l0 : List (S29)) (a1 : ByteArray) (a2 : Int) : Option ((List (S29)) × Bool) := (some (([] : List (S29)) : List (S29))).bind fun y134 => ((spec_PairsValid.f k l0).bind fun t137 => (if t137 = true then ((spec_KeyValid.f k a1).bind fun t138 => (if t138 = true then ((spec_l1In.f a2 0 999).bind fun t139 => (spec_PairPut.j0 k l0 a1 a2 y134 (!t139))) else (spec_PairPut.j0 k l0 a1 a2 y134 true))) else (spec_PairPut.j0 k l0 a1 a2 y134 true)))
theorem spec_PairPut.mono_l : ∀ k, (∀ y0 y1 y2 y3 y4, LeO (spec_PairPut.j0 k y0 y1 y2 y3 y4) (spec_PairPut.j0 (k + 1) y0 y1 y2 y3 y4)) ∧ (∀ y0 y1 y2 y3 y4 y5, LeO (spec_PairPut.j1 k y0 y1 y2 y3 y4 y5) (spec_PairPut.j1 (k + 1) y0 y1 y2 y3 y4 y5))
  | 0 => ⟨fun _ _ _ _ _ r h => by simp [spec_PairPut.j0] at h, fun _ _ _ _ _ _ r h => by simp [spec_PairPut.j1] at h⟩
  | k + 1 => by
    obtain ⟨ih0, ih1⟩ := spec_PairPut.mono_l k
    refine ⟨?_, ?_⟩
    · intro y0 y1 y2 y3 y4
      unfold spec_PairPut.j0
      repeat' first
      | (with_reducible exact ih0 _ _ _ _ _)
      | (with_reducible exact ih1 _ _ _ _ _ _)
      | (with_reducible exact spec_KeyValid.mono _ _)
      | (with_reducible exact spec_PairsValid.mono _ _)
      | (with_reducible exact spec_l4Place.mono _ _ _)
      | (with_reducible exact LeO.refl _)
      | (with_reducible exact LeO.none _)
      | (with_reducible refine LeO.ite ?_ ?_)
      | (with_reducible refine LeO.bind ?_ (fun _ => ?_))
      | exact ih0 _ _ _ _ _
      | exact ih1 _ _ _ _ _ _
      | exact spec_KeyValid.mono _ _
      | exact spec_PairsValid.mono _ _
      | exact spec_l4Place.mono _ _ _
      | exact LeO.none _
      | refine LeO.ite ?_ ?_
      | refine LeO.bind ?_ (fun _ => ?_)
    · intro y0 y1 y2 y3 y4 y5
      unfold spec_PairPut.j1
      repeat' first
      | (with_reducible exact ih0 _ _ _ _ _)
      | (with_reducible exact ih1 _ _ _ _ _ _)
      | (with_reducible exact spec_KeyValid.mono _ _)
      | (with_reducible exact spec_PairsValid.mono _ _)
      | (with_reducible exact spec_l4Place.mono _ _ _)
      | (with_reducible exact LeO.refl _)
      | (with_reducible exact LeO.none _)
      | (with_reducible refine LeO.ite ?_ ?_)
      | (with_reducible refine LeO.bind ?_ (fun _ => ?_))
      | exact ih0 _ _ _ _ _
      | exact ih1 _ _ _ _ _ _
      | exact spec_KeyValid.mono _ _
      | exact spec_PairsValid.mono _ _
      | exact spec_l4Place.mono _ _ _
      | exact LeO.none _
      | refine LeO.ite ?_ ?_
      | refine LeO.bind ?_ (fun _ => ?_)
theorem spec_PairPut.mono : ∀ a0 a1 a2 k, LeO (spec_PairPut.f k a0 a1 a2) (spec_PairPut.f (k + 1) a0 a1 a2) := by
  intro a0 a1 a2 k
  obtain ⟨ih0, ih1⟩ := spec_PairPut.mono_l k
  unfold spec_PairPut.f
  repeat' first
      | (with_reducible exact ih0 _ _ _ _ _)
      | (with_reducible exact ih1 _ _ _ _ _ _)
      | (with_reducible exact spec_KeyValid.mono _ _)
      | (with_reducible exact spec_PairsValid.mono _ _)
      | (with_reducible exact spec_l4Place.mono _ _ _)
      | (with_reducible exact LeO.refl _)
      | (with_reducible exact LeO.none _)
      | (with_reducible refine LeO.ite ?_ ?_)
      | (with_reducible refine LeO.bind ?_ (fun _ => ?_))
      | exact ih0 _ _ _ _ _
      | exact ih1 _ _ _ _ _ _
      | exact spec_KeyValid.mono _ _
      | exact spec_PairsValid.mono _ _
      | exact spec_l4Place.mono _ _ _
      | exact LeO.none _
      | refine LeO.ite ?_ ?_
      | refine LeO.bind ?_ (fun _ => ?_)
set_option maxHeartbeats 8000000 in
set_option maxRecDepth 100000 in
theorem spec_PairPut.calls (k : Nat) (A0 : Option Addr) (c0 : Nat) (l0 : List (S29)) (a1 : ByteArray) (a2 : Int) (r1 : List (S29)) (r2 : Bool) (w : World) (hr0 : Kd.C k29 w A0 l0.length l0) (hc0 : l0.length ≤ c0) (h : spec_PairPut.f k l0 a1 a2 = some (r1, r2)) :
    Calls Try.prog 93 #[.slice A0 l0.length c0, .string a1, .int .i64 a2] w fun e w' => ∃ v0_ : Value, e = .returned (.tuple #[v0_, .bool r2]) ∧ Kd.R k29 29 w' w.heap.size (fun _ => True) v0_ r1 ∧ Below w.heap.size w w' := by
  have hu29 := Try.underlying29
  have HR0 := Aside0.mk hr0
  have HC0 := Aside0.mk hc0
  clear hr0 hc0
  have HB := Aside0.mk (Below.refl w.heap.size w)
  have H : ((some (([] : List (S29)) : List (S29))).bind fun y134 => ((spec_PairsValid.f k l0).bind fun t137 => (if t137 = true then ((spec_KeyValid.f k a1).bind fun t138 => (if t138 = true then ((spec_l1In.f a2 0 999).bind fun t139 => (spec_PairPut.j0 k l0 a1 a2 y134 (!t139))) else (spec_PairPut.j0 k l0 a1 a2 y134 true))) else (spec_PairPut.j0 k l0 a1 a2 y134 true)))) = some (r1, r2) := h
  clear h
  obtain ⟨y134, hy134⟩ : ∃ y_ : List (S29), y_ = (([] : List (S29))) := ⟨_, rfl⟩
  replace H : ((spec_PairsValid.f k l0).bind fun t137 => (if t137 = true then ((spec_KeyValid.f k a1).bind fun t138 => (if t138 = true then ((spec_l1In.f a2 0 999).bind fun t139 => (spec_PairPut.j0 k l0 a1 a2 y134 (!t139))) else (spec_PairPut.j0 k l0 a1 a2 y134 true))) else (spec_PairPut.j0 k l0 a1 a2 y134 true))) = some (r1, r2) := by first | (rw [hy134]; with_reducible exact H) | (have H2_ := (Option.bind_some _ _).symm.trans H; rw [hy134]; with_reducible exact H2_) | (have H2_ := (Option.bind_some _ _).symm.trans H; with_reducible exact H2_) | with_reducible exact H | (rw [hy134]; exact H) | exact H
  have Ny134 := Aside0.mk hy134
  clear hy134
  have HC4 := Aside0.mk H
  clear H
  go_enter Try.func93, Try.ntmps93
  go_upto_region 2 with (first | ((with_reducible refine gate_dst (N := 10) rfl ?_); refine Kd.R_lit k29 _ 29 ?hg (N := 10) ?hd (xs := ([] : List (S29))) (inner := []) (ok := fun _ => True) (okp := fun _ => True) ?hr ?hp (fun _ hk => hk) trivial (Below.refl _ _) (Nat.le_refl _) (by simp) ?_; (case hd => rfl); (case hg => rfl); (case hr => first | (go_simp; done) | (go_simp; rfl)); (case hp => exact (Reps.none _ _)); intro v135 w5 ho6 hb hg_ hnew_; clear hg_ hnew_; (first | rw [← Ny134.out] at ho6 | (simp only [Int.reduceToNat] at ho6; rw [← Ny134.out] at ho6)); have n0_ := Aside0.mk (Kd.R_lower ho6 (below_size (bp HB.out))); have n1_ := an0 HB hb; clear HB; have HO136 := n0_; have HB := n1_; clear n0_ n1_; clear hb ho6))
  (try simp only [Act.put, List.setIfInBounds_toArray, List.set_cons_zero, List.set_cons_succ])
  go_cut [23] (fun v23 wc => ∃ (kq : Nat) (x23_3 : Bool), v23 = .bool x23_3 ∧ Aside0 (spec_PairPut.j0 kq l0 a1 a2 y134 x23_3 = some (r1, r2)) ∧ Aside0 (kq ≤ k) ∧ Aside0 (Kd.R k29 29 wc w.heap.size (fun _ => True) v135 y134) ∧ Aside0 (Below w.heap.size w wc))
  case first =>
    have H := HC4.out
    clear HC4
    replace H := Option.bind_eq_some_iff.mp H
    obtain ⟨t137, A70, H⟩ := H
    replace H : (if t137 = true then ((spec_KeyValid.f k a1).bind fun t138 => (if t138 = true then ((spec_l1In.f a2 0 999).bind fun t139 => (spec_PairPut.j0 k l0 a1 a2 y134 (!t139))) else (spec_PairPut.j0 k l0 a1 a2 y134 true))) else (spec_PairPut.j0 k l0 a1 a2 y134 true)) = some (r1, r2) := H
    have A7 := Aside0.mk A70
    clear A70
    by_cases c8 : t137 = true
    · subst c8
      have H1 : ((spec_KeyValid.f k a1).bind fun t138 => (if t138 = true then ((spec_l1In.f a2 0 999).bind fun t139 => (spec_PairPut.j0 k l0 a1 a2 y134 (!t139))) else (spec_PairPut.j0 k l0 a1 a2 y134 true))) = some (r1, r2) := by rw [if_pos rfl] at H; exact H
      clear H
      have H := H1
      clear H1
      replace H := Option.bind_eq_some_iff.mp H
      obtain ⟨t138, A90, H⟩ := H
      replace H : (if t138 = true then ((spec_l1In.f a2 0 999).bind fun t139 => (spec_PairPut.j0 k l0 a1 a2 y134 (!t139))) else (spec_PairPut.j0 k l0 a1 a2 y134 true)) = some (r1, r2) := H
      have A9 := Aside0.mk A90
      clear A90
      by_cases c10 : t138 = true
      · subst c10
        have H1 : ((spec_l1In.f a2 0 999).bind fun t139 => (spec_PairPut.j0 k l0 a1 a2 y134 (!t139))) = some (r1, r2) := by rw [if_pos rfl] at H; exact H
        clear H
        have H := H1
        clear H1
        replace H := Option.bind_eq_some_iff.mp H
        obtain ⟨t139, A110, H⟩ := H
        replace H : (spec_PairPut.j0 k l0 a1 a2 y134 (!t139)) = some (r1, r2) := H
        have A11 := Aside0.mk A110
        clear A110
        have H' := Aside0.mk H
        clear H
        go_wp2_with (first | ((with_reducible refine gate_callee (f := 72) rfl ?_); refine gsl (some 12) rfl Try.func72 #[.slice A0 l0.length c0] rfl ?_; (with_reducible refine (spec_PairsValid.calls k _ _ l0 true _ ?side1 ?side2 A7.out).mono ?_); (case side1 => exact cc (Kd.C_below HR0.out HB.out)); (case side2 => exact HC0.out); rintro e w12 ⟨rfl, hb⟩; refine ⟨_, rfl, ?_⟩; have n0_ := Aside0.mk (Kd.R_below (kr HO136.out) hb); have n1_ := an0 HB hb; clear HO136; clear HB; have HO136 := n0_; have HB := n1_; clear n0_ n1_; (try clear hb); (try clear hb2); (try clear hk); (try clear hi)) | (go_at_call 113; (with_reducible refine (spec_KeyValid.calls k a1 true _ A9.out).mono ?_); rintro e w' ⟨rfl, ⟨nd, rfl⟩⟩) | (go_at_call 112; (with_reducible refine (spec_l1In.calls a2 0 999 t139 _ A11.out).mono ?_); rintro e w' ⟨rfl, ⟨nd, rfl⟩⟩))
        go_meet
        case rel => exact ⟨_, (!t139), (by first | rfl | (simp; done) | (simp [*]; done) | (simp [bne_nil_, beq_nil_]; done)), H', ⟨by first | omega | exact Nat.le_refl _⟩, ⟨by (with_reducible repeat (first | apply Kd.R_alloc | apply Kd.R_drewN | apply Kd.R_drew)); exact HO136.out⟩, ⟨bp HB.out⟩⟩
      · replace c10 := Bool.eq_false_iff.mpr c10
        subst c10
        have H1 : (spec_PairPut.j0 k l0 a1 a2 y134 true) = some (r1, r2) := by rw [if_neg (show ¬ (false = true) by decide)] at H; exact H
        clear H
        have H := H1
        clear H1
        have H' := Aside0.mk H
        clear H
        go_wp2_with (first | ((with_reducible refine gate_callee (f := 72) rfl ?_); refine gsl (some 12) rfl Try.func72 #[.slice A0 l0.length c0] rfl ?_; (with_reducible refine (spec_PairsValid.calls k _ _ l0 true _ ?side1 ?side2 A7.out).mono ?_); (case side1 => exact cc (Kd.C_below HR0.out HB.out)); (case side2 => exact HC0.out); rintro e w13 ⟨rfl, hb⟩; refine ⟨_, rfl, ?_⟩; have n0_ := Aside0.mk (Kd.R_below (kr HO136.out) hb); have n1_ := an0 HB hb; clear HO136; clear HB; have HO136 := n0_; have HB := n1_; clear n0_ n1_; (try clear hb); (try clear hb2); (try clear hk); (try clear hi)) | (go_at_call 113; (with_reducible refine (spec_KeyValid.calls k a1 false _ A9.out).mono ?_); rintro e w' ⟨rfl, ⟨nd, rfl⟩⟩))
        go_meet
        case rel => exact ⟨_, (true), (by first | rfl | (simp; done) | (simp [*]; done) | (simp [bne_nil_, beq_nil_]; done)), H', ⟨by first | omega | exact Nat.le_refl _⟩, ⟨by (with_reducible repeat (first | apply Kd.R_alloc | apply Kd.R_drewN | apply Kd.R_drew)); exact HO136.out⟩, ⟨bp HB.out⟩⟩
    · replace c8 := Bool.eq_false_iff.mpr c8
      subst c8
      have H1 : (spec_PairPut.j0 k l0 a1 a2 y134 true) = some (r1, r2) := by rw [if_neg (show ¬ (false = true) by decide)] at H; exact H
      clear H
      have H := H1
      clear H1
      have H' := Aside0.mk H
      clear H
      go_wp2_with (first | ((with_reducible refine gate_callee (f := 72) rfl ?_); refine gsl (some 12) rfl Try.func72 #[.slice A0 l0.length c0] rfl ?_; (with_reducible refine (spec_PairsValid.calls k _ _ l0 false _ ?side1 ?side2 A7.out).mono ?_); (case side1 => exact cc (Kd.C_below HR0.out HB.out)); (case side2 => exact HC0.out); rintro e w14 ⟨rfl, hb⟩; refine ⟨_, rfl, ?_⟩; have n0_ := Aside0.mk (Kd.R_below (kr HO136.out) hb); have n1_ := an0 HB hb; clear HO136; clear HB; have HO136 := n0_; have HB := n1_; clear n0_ n1_; (try clear hb); (try clear hb2); (try clear hk); (try clear hi)))
      go_meet
      case rel => exact ⟨_, (true), (by first | rfl | (simp; done) | (simp [*]; done) | (simp [bne_nil_, beq_nil_]; done)), H', ⟨by first | omega | exact Nat.le_refl _⟩, ⟨by (with_reducible repeat (first | apply Kd.R_alloc | apply Kd.R_drewN | apply Kd.R_drew)); exact HO136.out⟩, ⟨bp HB.out⟩⟩
  case rest =>
    clear HC4
    try clear c1
    try clear p2
    try clear c7
    try clear c8
    try clear c9
    try clear c10
    obtain ⟨kq, x23_3, rfl, HA, HJ3, HO_8, HB⟩ := hcut
    cases kq with
    | zero => exact absurd HA.out (by simp [spec_PairPut.j0])
    | succ kj3 =>
      have H := HA.out
      clear HA
      simp only [spec_PairPut.j0] at H
      by_cases c15 : x23_3 = true
      · subst c15
        have H1 : (some (y134, false)) = some (r1, r2) := by rw [if_pos rfl] at H; exact H
        clear H
        have H := H1
        clear H1
        simp only [Option.some.injEq, Prod.mk.injEq] at H
        obtain ⟨rfl, rfl⟩ := H
        go_wp2
        go_ret2
        exact ⟨_, fe, by (with_reducible repeat (first | apply Kd.R_alloc | apply Kd.R_drewN | apply Kd.R_drew)); exact HO_8.out, bp HB.out⟩
      · replace c15 := Bool.eq_false_iff.mpr c15
        subst c15
        have H1 : ((spec_l4Place.f kj3 l0 a1).bind fun t140 => (if t140 < (l0.length : Int) then (if 0 ≤ t140 then (spec_PairPut.j1 kj3 l0 a1 a2 y134 t140 (((rd_T29 l0 t140).f0).toList == a1.toList)) else (none)) else (spec_PairPut.j1 kj3 l0 a1 a2 y134 t140 false))) = some (r1, r2) := by rw [if_neg (show ¬ (false = true) by decide)] at H; exact H
        clear H
        have H := H1
        clear H1
        replace H := Option.bind_eq_some_iff.mp H
        obtain ⟨t140, A160, H⟩ := H
        replace H : (if t140 < (l0.length : Int) then (if 0 ≤ t140 then (spec_PairPut.j1 kj3 l0 a1 a2 y134 t140 (((rd_T29 l0 t140).f0).toList == a1.toList)) else (none)) else (spec_PairPut.j1 kj3 l0 a1 a2 y134 t140 false)) = some (r1, r2) := H
        have A16 := Aside0.mk A160
        clear A160
        have HC17 := Aside0.mk H
        clear H
        go_upto_region 5 with (first | ((with_reducible refine gate_callee (f := 136) rfl ?_); refine gsl (some 27) rfl Try.func136 #[.slice A0 l0.length c0, .string a1] rfl ?_; (with_reducible refine (spec_l4Place.calls kj3 _ _ l0 a1 t140 _ ?side1 ?side2 A16.out).mono ?_); (case side1 => exact cc (Kd.C_below HR0.out HB.out)); (case side2 => exact HC0.out); rintro e w' ⟨rfl, ⟨nd, rfl⟩⟩; refine ⟨_, rfl, ?_⟩))
        (try simp only [Act.put, List.setIfInBounds_toArray, List.set_cons_zero, List.set_cons_succ])
        go_cut [40] (fun v40 wc => ∃ (kq : Nat) (x40_16 : Bool), v40 = .bool x40_16 ∧ Aside0 (spec_PairPut.j1 kq l0 a1 a2 y134 t140 x40_16 = some (r1, r2)) ∧ Aside0 (kq ≤ kj3) ∧ Aside0 (Kd.R k29 29 wc w.heap.size (fun _ => True) v135 y134) ∧ Aside0 (Below w.heap.size w wc))
        case first =>
          have H := HC17.out
          clear HC17
          by_cases c18 : t140 < (l0.length : Int)
          · rw [if_pos c18] at H
            have c18b0 : decide (t140 < (l0.length : Int)) = true := decide_eq_true c18
            clear c18
            (first | rw [c18b0] | (simp only [i64_w, i32_w]; rw [c18b0]) | skip)
            by_cases c19 : 0 ≤ t140
            · rw [if_pos c19] at H
              have c19b0 : decide (0 ≤ t140) = true := decide_eq_true c19
              clear c19
              have H' := Aside0.mk H
              clear H
              have p141 : 0 ≤ (t140 : Int) := of_decide_eq_true (by first | (with_reducible assumption) | assumption)
              have q141 : t140 < (l0.length : Int) := of_decide_eq_true (by first | (with_reducible assumption) | assumption)
              obtain ⟨ad141, e141, hx141_0, hx141_1⟩ := at_T29 HR0.out t140 p141 q141
              cases e141
              replace hx141_0 := hcx HB hx141_0
              replace hx141_1 := hcx HB hx141_1
              replace p141 := eq_true p141
              replace q141 := eq_true q141
              go_wp2
              go_meet
              case rel => exact ⟨_, ((((rd_T29 l0 t140).f0).toList == a1.toList)), (by first | rfl | (simp; done) | (simp [*]; done) | (simp [bne_nil_, beq_nil_]; done)), H', ⟨by have := HJ3.out; first | omega | exact Nat.le_refl _⟩, ⟨by (with_reducible repeat (first | apply Kd.R_alloc | apply Kd.R_drewN | apply Kd.R_drew)); exact HO_8.out⟩, ⟨bp HB.out⟩⟩
            · rw [if_neg c19] at H
              exact absurd H (by simp)
          · rw [if_neg c18] at H
            have c18b0 : decide (t140 < (l0.length : Int)) = false := decide_eq_false c18
            clear c18
            (first | rw [c18b0] | (simp only [i64_w, i32_w]; rw [c18b0]) | skip)
            have H' := Aside0.mk H
            clear H
            go_wp2
            go_meet
            case rel => exact ⟨_, (false), (by first | rfl | (simp; done) | (simp [*]; done) | (simp [bne_nil_, beq_nil_]; done)), H', ⟨by have := HJ3.out; first | omega | exact Nat.le_refl _⟩, ⟨by (with_reducible repeat (first | apply Kd.R_alloc | apply Kd.R_drewN | apply Kd.R_drew)); exact HO_8.out⟩, ⟨bp HB.out⟩⟩
        case rest =>
          clear HC17
          try clear c1
          try clear p1
          try clear q1
          try clear hx1
          try clear p2
          try clear p6
          try clear c7
          try clear c8
          try clear c9
          try clear c10
          try clear c13
          try clear p14
          try clear q14
          try clear hx14
          try clear c15
          try clear c18
          try clear c18b0
          try clear c19
          try clear c19b0
          try clear hx141_0
          try clear hx141_1
          try clear p141
          try clear p2
          try clear q141
          obtain ⟨kq, x40_16, rfl, HA, HJ16, HO_8, HB⟩ := hcut
          cases kq with
          | zero => exact absurd HA.out (by simp [spec_PairPut.j1])
          | succ kj16 =>
            have H := HA.out
            clear HA
            simp only [spec_PairPut.j1] at H
            by_cases c20 : x40_16 = true
            · subst c20
              have H1 : (if y134.length + l0.length < 5864062014805 then ((some (y134 ++ l0 : List (S29))).bind fun y142 => (if 0 ≤ t140 then (if t140 < (y142.length : Int) then (some ((y142.set (t140 : Int).toNat (⟨(rd_T29 y142 t140).f0, a2⟩ : S29)), true)) else (none)) else (none))) else (none)) = some (r1, r2) := by rw [if_pos rfl] at H; exact H
              clear H
              have H := H1
              clear H1
              by_cases c21 : y134.length + l0.length < 5864062014805
              · rw [if_pos c21] at H
                have LMc21 := Aside0.mk c21
                clear c21
                obtain ⟨y142, hy142⟩ : ∃ y_ : List (S29), y_ = (y134 ++ l0) := ⟨_, rfl⟩
                replace H : (if 0 ≤ t140 then (if t140 < (y142.length : Int) then (some ((y142.set (t140 : Int).toNat (⟨(rd_T29 y142 t140).f0, a2⟩ : S29)), true)) else (none)) else (none)) = some (r1, r2) := by first | (rw [hy142]; with_reducible exact H) | (have H2_ := (Option.bind_some _ _).symm.trans H; rw [hy142]; with_reducible exact H2_) | (have H2_ := (Option.bind_some _ _).symm.trans H; with_reducible exact H2_) | with_reducible exact H | (rw [hy142]; exact H) | exact H
                have Ny142 := Aside0.mk hy142
                clear hy142
                by_cases c22 : 0 ≤ t140
                · rw [if_pos c22] at H
                  have c22b0 : decide (0 ≤ t140) = true := decide_eq_true c22
                  clear c22
                  by_cases c23 : t140 < (y142.length : Int)
                  · rw [if_pos c23] at H
                    have c23b0 : decide (t140 < (y142.length : Int)) = true := decide_eq_true c23
                    clear c23
                    obtain ⟨y145, hy145⟩ : ∃ y_ : List (S29), y_ = (y142.set (t140 : Int).toNat (⟨(rd_T29 y142 t140).f0, a2⟩ : S29)) := ⟨_, rfl⟩
                    replace H : (some (y145, true)) = some (r1, r2) := by first | (rw [hy145]; with_reducible exact H) | (have H2_ := (Option.bind_some _ _).symm.trans H; rw [hy145]; with_reducible exact H2_) | (have H2_ := (Option.bind_some _ _).symm.trans H; with_reducible exact H2_) | with_reducible exact H | (rw [hy145]; exact H) | exact H
                    have Ny145 := Aside0.mk hy145
                    clear hy145
                    simp only [Option.some.injEq, Prod.mk.injEq] at H
                    obtain ⟨rfl, rfl⟩ := H
                    go_wp2_with (first | ((with_reducible refine gate_builtin (b := .append) (xs := #[.tmp 41, .tmp 42]) rfl ?_); at_builtin; refine Kd.R_append_rows k29 (w0 := w) w.heap.size rfl (.tmp 41) (.tmp 42) 23 29 (.agg #[(.string ⟨#[]⟩), (.int .i64 0)]) 24 rfl Try.underlying23 info29 rfl (by decide) (by omega) v135 y134 l0 _ _ _ (fun _ => True) (fun _ => False) rfl rfl ?aO ?aR (fun _ _ h => h) (fun _ h => h.elim) ?aF ?aB ?aS ?aL ?_; (case aR => exact cc (Kd.C_below HR0.out HB.out)); (case aB => exact (bp HB.out)); (case aF => exact (fun _ _ => trivial)); (case aO => exact (kr HO_8.out)); (case aS => exact (below_size (bp HB.out))); (case aL => have := LMc21.out; omega); intro v143 w25 ho hb hg hat; rw [← Ny142.out] at ho; have n0_ := Aside0.mk (hb); have n1_ := Aside0.mk (ho); clear HB; clear HO_8; have HB := n0_; have HO144 := n1_; clear n0_ n1_; clear ho hb hg hat; have p24 : 0 ≤ (t140 : Int) := of_decide_eq_true (by first | (with_reducible assumption) | assumption); have q24 : (t140 : Int) < ((y142.length : Int) : Int) := of_decide_eq_true (by first | (with_reducible assumption) | assumption); obtain ⟨go24, co24, eo24, gb24, gl24, cl24, HG24⟩ := Kd.R_form HO144.out (by omega); (first | cases eo24 | (injection eo24 with ea_ en_ ec_; (first | subst ea_ | (injection ea_ with ea_; subst ea_)); subst ec_; clear en_)); have GB24 := Aside0.mk gb24; have GG24 := Aside0.mk HG24; clear gb24 gl24 HG24; obtain ⟨ce24, hcl24, hM24, hcc24, hfr24⟩ := Kd.R_elem HO144.out z29 (t140 : Int) p24 q24; obtain rfl := k29_openM hM24; have hx24_0 : w25.cell? ⟨go24, (t140 : Int).toNat * 2, none⟩ = some (.string ((rd_T29 y142 t140).f0)) := hcc24 0 _ rfl; have hx24_1 : w25.cell? ⟨go24, (t140 : Int).toNat * 2 + 1, none⟩ = some (.int .i64 ((rd_T29 y142 t140).f1)) := hcc24 1 _ rfl; have hf24_0 : w25.frozen? ⟨go24, (t140 : Int).toNat * 2, none⟩ = false := hfr24 0; have hf24_1 : w25.frozen? ⟨go24, (t140 : Int).toNat * 2 + 1, none⟩ = false := hfr24 1; clear hcl24 hcc24 hfr24 hM24; replace p24 := eq_true p24; replace q24 := eq_true q24; have HX26 := Aside0.mk (show Kd.R k29 29 w25 w.heap.size (fun _ => True) (.slice (some ⟨go24, 0, none⟩) y142.length co24) y142 from (kr HO144.out)); obtain ⟨ce26, hcl26, hM26, hcc26, hfr26⟩ := Kd.R_elem HX26.out z29 (t140 : Int) (of_decide_eq_true (by first | (with_reducible assumption) | assumption)) (by have h_ : (t140 : Int) < ((y142.length : Int) : Int) := of_decide_eq_true (by first | (with_reducible assumption) | assumption); first | exact h_ | (have e_ := (Kd.R_reads' HO144.out).1; omega) | simpa using h_); obtain rfl := k29_openM hM26; have HP26 := Kd.R_seg HX26.out (t140 : Int) (of_decide_eq_true (by first | (with_reducible assumption) | assumption)) (by have h_ : (t140 : Int) < ((y142.length : Int) : Int) := of_decide_eq_true (by first | (with_reducible assumption) | assumption); first | exact h_ | (have e_ := (Kd.R_reads' HO144.out).1; omega) | simpa using h_) (seg := [.int .i64 a2]) (j := 1) hcl26 hcc26 (show 2 ≤ 2 from by decide) (x' := (⟨(rd_T29 y142 t140).f0, a2⟩ : S29)) (k29_mkM _ _ _ (⟨(rd_T29 y142 t140).f0, a2⟩ : S29) ) (fun _ hk => hk); have hx26_1 := hcc26 1 _ rfl; (try simp only [show (k29).sz = 2 from rfl, Nat.mul_one, Nat.add_zero] at hx26_1); have hf26_1 := hfr26 1; (try simp only [show (k29).sz = 2 from rfl, Nat.mul_one, Nat.add_zero] at hf26_1); clear hcl26 hcc26 hfr26 hM26) | ((with_reducible refine gate_store (t := 3) (p := 48) rfl ?_); refine store_event (t := 3) (p := 48) (v := ?vo_w27) (w1 := (w25.setCell ⟨go24, (t140 : Int).toNat * 2 + 1, none⟩ (.int .i64 a2))) ?hg ?ho ?hn ?hr ?_; (case ho => rfl); (case hg => rfl); (case hn => rfl); (case hr => first | (go_simp; done) | (go_simp; rfl)); intro w27 hw; have hg : w25.grownBy w27 (some go24) := (by rw [hw]; exact HP26.2); have hp_ : Kd.R k29 29 w27 w.heap.size (fun _ => True) (.slice (some ⟨go24, 0, none⟩) y142.length co24) y145 := (by rw [hw, Ny145.out]; exact HP26.1); clear HP26; have n0_ := Aside0.mk (hp_); have n1_ := Aside0.mk ((by rw [hw]; exact below_set (HB.out) GB24.out : Below w.heap.size w w27)); clear HO144; clear HB; have HO144 := n0_; have HB := n1_; clear n0_ n1_; clear hg hw hp_))
                    go_ret2
                    exact ⟨_, fe, by (with_reducible repeat (first | apply Kd.R_alloc | apply Kd.R_drewN | apply Kd.R_drew)); exact HO144.out, bp HB.out⟩
                  · rw [if_neg c23] at H
                    exact absurd H (by simp)
                · rw [if_neg c22] at H
                  exact absurd H (by simp)
              · rw [if_neg c21] at H
                exact absurd H (by simp)
            · replace c20 := Bool.eq_false_iff.mpr c20
              subst c20
              have H1 : (if (l0.length : Int) ≥ 48 then (if y134.length + l0.length < 5864062014805 then (some ((y134 ++ l0), false)) else (none)) else (if 0 ≤ t140 then (if t140 ≤ (l0.length : Int) then ((some (l0.take (t140 : Int).toNat : List (S29))).bind fun y149 => (if y134.length + y149.length < 5864062014805 then ((some (y134 ++ y149 : List (S29))).bind fun y153 => (if y153.length < 5864062014805 then ((some (y153 ++ [(⟨a1, a2⟩ : S29)] : List (S29))).bind fun y156 => ((some (l0.drop (t140 : Int).toNat : List (S29))).bind fun y159 => (if y156.length + y159.length < 5864062014805 then (some ((y156 ++ y159), true)) else (none)))) else (none))) else (none))) else (none)) else (none))) = some (r1, r2) := by rw [if_neg (show ¬ (false = true) by decide)] at H; exact H
              clear H
              have H := H1
              clear H1
              by_cases c28 : (l0.length : Int) ≥ 48
              · rw [if_pos c28] at H
                have c28b0 : decide (48 ≤ (l0.length : Int)) = true := decide_eq_true c28
                have c28b1 : decide (48 ≤ l0.length) = true := decide_eq_true (by omega)
                clear c28
                by_cases c29 : y134.length + l0.length < 5864062014805
                · rw [if_pos c29] at H
                  have LMc29 := Aside0.mk c29
                  clear c29
                  obtain ⟨y146, hy146⟩ : ∃ y_ : List (S29), y_ = (y134 ++ l0) := ⟨_, rfl⟩
                  replace H : (some (y146, false)) = some (r1, r2) := by first | (rw [hy146]; with_reducible exact H) | (have H2_ := (Option.bind_some _ _).symm.trans H; rw [hy146]; with_reducible exact H2_) | (have H2_ := (Option.bind_some _ _).symm.trans H; with_reducible exact H2_) | with_reducible exact H | (rw [hy146]; exact H) | exact H
                  have Ny146 := Aside0.mk hy146
                  clear hy146
                  simp only [Option.some.injEq, Prod.mk.injEq] at H
                  obtain ⟨rfl, rfl⟩ := H
                  go_wp2_with (first | ((with_reducible refine gate_builtin (b := .append) (xs := #[.tmp 53, .tmp 54]) rfl ?_); at_builtin; refine Kd.R_append_rows k29 (w0 := w) w.heap.size rfl (.tmp 53) (.tmp 54) 23 29 (.agg #[(.string ⟨#[]⟩), (.int .i64 0)]) 24 rfl Try.underlying23 info29 rfl (by decide) (by omega) v135 y134 l0 _ _ _ (fun _ => True) (fun _ => False) rfl rfl ?aO ?aR (fun _ _ h => h) (fun _ h => h.elim) ?aF ?aB ?aS ?aL ?_; (case aR => exact cc (Kd.C_below HR0.out HB.out)); (case aB => exact (bp HB.out)); (case aF => exact (fun _ _ => trivial)); (case aO => exact (kr HO_8.out)); (case aS => exact (below_size (bp HB.out))); (case aL => have := LMc29.out; omega); intro v147 w30 ho hb hg hat; rw [← Ny146.out] at ho; have n0_ := Aside0.mk (hb); have n1_ := Aside0.mk (ho); clear HB; clear HO_8; have HB := n0_; have HO148 := n1_; clear n0_ n1_; clear ho hb hg hat))
                  go_ret2
                  exact ⟨_, fe, by (with_reducible repeat (first | apply Kd.R_alloc | apply Kd.R_drewN | apply Kd.R_drew)); exact HO148.out, bp HB.out⟩
                · rw [if_neg c29] at H
                  exact absurd H (by simp)
              · rw [if_neg c28] at H
                have c28b0 : decide (48 ≤ (l0.length : Int)) = false := decide_eq_false c28
                have c28b1 : decide (48 ≤ l0.length) = false := decide_eq_false (by omega)
                clear c28
                by_cases c31 : 0 ≤ t140
                · rw [if_pos c31] at H
                  have c31b0 := eq_true c31
                  have c31b1 : decide (0 ≤ t140) = true := decide_eq_true c31
                  clear c31
                  by_cases c32 : t140 ≤ (l0.length : Int)
                  · rw [if_pos c32] at H
                    have c32b0 := eq_true c32
                    have c32b1 : decide (t140 ≤ (l0.length : Int)) = true := decide_eq_true c32
                    clear c32
                    obtain ⟨y149, hy149⟩ : ∃ y_ : List (S29), y_ = (l0.take (t140 : Int).toNat) := ⟨_, rfl⟩
                    replace H : (if y134.length + y149.length < 5864062014805 then ((some (y134 ++ y149 : List (S29))).bind fun y153 => (if y153.length < 5864062014805 then ((some (y153 ++ [(⟨a1, a2⟩ : S29)] : List (S29))).bind fun y156 => ((some (l0.drop (t140 : Int).toNat : List (S29))).bind fun y159 => (if y156.length + y159.length < 5864062014805 then (some ((y156 ++ y159), true)) else (none)))) else (none))) else (none)) = some (r1, r2) := by first | (rw [hy149]; with_reducible exact H) | (have H2_ := (Option.bind_some _ _).symm.trans H; rw [hy149]; with_reducible exact H2_) | (have H2_ := (Option.bind_some _ _).symm.trans H; with_reducible exact H2_) | with_reducible exact H | (rw [hy149]; exact H) | exact H
                    have Ny149 := Aside0.mk hy149
                    clear hy149
                    by_cases c33 : y134.length + y149.length < 5864062014805
                    · rw [if_pos c33] at H
                      have LMc33 := Aside0.mk c33
                      clear c33
                      obtain ⟨y153, hy153⟩ : ∃ y_ : List (S29), y_ = (y134 ++ y149) := ⟨_, rfl⟩
                      replace H : (if y153.length < 5864062014805 then ((some (y153 ++ [(⟨a1, a2⟩ : S29)] : List (S29))).bind fun y156 => ((some (l0.drop (t140 : Int).toNat : List (S29))).bind fun y159 => (if y156.length + y159.length < 5864062014805 then (some ((y156 ++ y159), true)) else (none)))) else (none)) = some (r1, r2) := by first | (rw [hy153]; with_reducible exact H) | (have H2_ := (Option.bind_some _ _).symm.trans H; rw [hy153]; with_reducible exact H2_) | (have H2_ := (Option.bind_some _ _).symm.trans H; with_reducible exact H2_) | with_reducible exact H | (rw [hy153]; exact H) | exact H
                      have Ny153 := Aside0.mk hy153
                      clear hy153
                      by_cases c34 : y153.length < 5864062014805
                      · rw [if_pos c34] at H
                        have LMc34 := Aside0.mk c34
                        clear c34
                        obtain ⟨y156, hy156⟩ : ∃ y_ : List (S29), y_ = (y153 ++ [(⟨a1, a2⟩ : S29)]) := ⟨_, rfl⟩
                        replace H : ((some (l0.drop (t140 : Int).toNat : List (S29))).bind fun y159 => (if y156.length + y159.length < 5864062014805 then (some ((y156 ++ y159), true)) else (none))) = some (r1, r2) := by first | (rw [hy156]; with_reducible exact H) | (have H2_ := (Option.bind_some _ _).symm.trans H; rw [hy156]; with_reducible exact H2_) | (have H2_ := (Option.bind_some _ _).symm.trans H; with_reducible exact H2_) | with_reducible exact H | (rw [hy156]; exact H) | exact H
                        have Ny156 := Aside0.mk hy156
                        clear hy156
                        have c35b0 := eq_true (of_decide_eq_true (by first | (with_reducible assumption) | assumption) : 0 ≤ t140)
                        have c36b0 := eq_true (of_decide_eq_true (by first | (with_reducible assumption) | assumption) : t140 ≤ (l0.length : Int))
                        obtain ⟨y159, hy159⟩ : ∃ y_ : List (S29), y_ = (l0.drop (t140 : Int).toNat) := ⟨_, rfl⟩
                        replace H : (if y156.length + y159.length < 5864062014805 then (some ((y156 ++ y159), true)) else (none)) = some (r1, r2) := by first | (rw [hy159]; with_reducible exact H) | (have H2_ := (Option.bind_some _ _).symm.trans H; rw [hy159]; with_reducible exact H2_) | (have H2_ := (Option.bind_some _ _).symm.trans H; with_reducible exact H2_) | with_reducible exact H | (rw [hy159]; exact H) | exact H
                        have Ny159 := Aside0.mk hy159
                        clear hy159
                        by_cases c37 : y156.length + y159.length < 5864062014805
                        · rw [if_pos c37] at H
                          have LMc37 := Aside0.mk c37
                          clear c37
                          obtain ⟨y163, hy163⟩ : ∃ y_ : List (S29), y_ = (y156 ++ y159) := ⟨_, rfl⟩
                          replace H : (some (y163, true)) = some (r1, r2) := by first | (rw [hy163]; with_reducible exact H) | (have H2_ := (Option.bind_some _ _).symm.trans H; rw [hy163]; with_reducible exact H2_) | (have H2_ := (Option.bind_some _ _).symm.trans H; with_reducible exact H2_) | with_reducible exact H | (rw [hy163]; exact H) | exact H
                          have Ny163 := Aside0.mk hy163
                          clear hy163
                          simp only [Option.some.injEq, Prod.mk.injEq] at H
                          obtain ⟨rfl, rfl⟩ := H
                          have q38 : (t140 : Int) ≤ ((l0.length : Int) : Int) := of_decide_eq_true (by first | (with_reducible assumption) | assumption)
                          obtain ⟨i038, hi038, _, hsz38, _⟩ := info_parts info29
                          have hroom38 : l0.length ≤ c0 := HC0.out
                          have hC38 : Kd.C k29 _ A0 l0.length l0 := HR0.out
                          have hcut38 := cut_to (P := Try.prog) 23 29 .i64 Try.underlying23 hi038 A0 l0.length c0 t140 (of_decide_eq_true (by first | (with_reducible assumption) | assumption)) q38 hroom38
                          have hr38 := Kd.C_take (m := (t140 : Int).toNat) hC38 (by omega)
                          have hy38 : y149.length = (t140 : Int).toNat := (by rw [Ny149.out, List.length_take]; omega)
                          rw [← Ny149.out] at hr38
                          rw [← hy38] at hcut38
                          have HR152 := Aside0.mk hr38
                          have HC152 := Aside0.mk (show y149.length ≤ c0 from by omega)
                          clear hr38 hC38 hroom38 hi038 hsz38
                          have KY38 := Aside0.mk hy38
                          clear hy38
                          replace q38 := eq_true q38
                          go_wp2_with (first | ((with_reducible refine gate_builtin (b := .append) (xs := #[.tmp 56, .tmp 59]) rfl ?_); at_builtin; refine Kd.R_append_rows k29 (w0 := w) w.heap.size rfl (.tmp 56) (.tmp 59) 23 29 (.agg #[(.string ⟨#[]⟩), (.int .i64 0)]) 24 rfl Try.underlying23 info29 rfl (by decide) (by omega) v135 y134 y149 _ _ _ (fun _ => True) (fun _ => False) rfl rfl ?aO ?aR (fun _ _ h => h) (fun _ h => h.elim) ?aF ?aB ?aS ?aL ?_; (case aR => exact cc (Kd.C_below HR152.out HB.out)); (case aB => exact (bp HB.out)); (case aF => exact (fun _ _ => trivial)); (case aO => exact (kr HO_8.out)); (case aS => exact (below_size (bp HB.out))); (case aL => have := LMc33.out; omega); intro v154 w39 ho hb hg hat; rw [← Ny153.out] at ho; have n0_ := Aside0.mk (hb); have n1_ := Aside0.mk (ho); clear HB; clear HO_8; have HB := n0_; have HO155 := n1_; clear n0_ n1_; clear ho hb hg hat) | ((with_reducible refine gate_builtin (b := .append) (xs := #[.tmp 61, .tmp 65]) rfl ?_); at_builtin; refine Kd.R_append k29 (w0 := w) w.heap.size rfl (.tmp 61) (.tmp 65) 23 29 (.agg #[(.string ⟨#[]⟩), (.int .i64 0)]) 24 rfl Try.underlying23 info29 rfl (by decide) (by omega) v154 y153 (⟨a1, a2⟩ : S29) [.string a1, .int .i64 a2] (fun _ => True) (fun _ => False) rfl rfl ?aP (fun _ hk => hk.elim) ?aF ?aO ?aB ?aS ?aL ?_; (case aP => exact k29_mkM _ _ _ (⟨a1, a2⟩ : S29)); (case aB => exact (bp HB.out)); (case aF => exact (fun _ _ => trivial)); (case aO => exact (kr HO155.out)); (case aS => exact (below_size (bp HB.out))); (case aL => have := LMc34.out; omega); intro v157 w40 ho hb hg hat; rw [← Ny156.out] at ho; have n0_ := Aside0.mk (hb); have n1_ := Aside0.mk (ho); clear HB; clear HO155; have HB := n0_; have HO158 := n1_; clear n0_ n1_; clear ho hb hg hat; have q41 : (t140 : Int) ≤ ((l0.length : Int) : Int) := of_decide_eq_true (by first | (with_reducible assumption) | assumption); obtain ⟨i041, hi041, _, hsz41, _⟩ := info_parts info29; have hroom41 : l0.length ≤ c0 := HC0.out; have hC41 : Kd.C k29 _ A0 l0.length l0 := HR0.out; have q041 : (0 : Int) ≤ (t140 : Int) := of_decide_eq_true (by first | (with_reducible assumption) | assumption); have hcut41 := cut_from (P := Try.prog) 23 29 .i64 Try.underlying23 hi041 2 hsz41 A0 l0.length c0 t140 q041 q41; have hr41 := Kd.C_drop (m := (t140 : Int).toNat) (c := c0) hC41 (by omega) hroom41; obtain ⟨A41, hA41⟩ : ∃ A_, A_ = (if c0 = (t140 : Int).toNat then A0 else (A0 : Option Addr).map (·.add ((t140 : Int).toNat * 2))) := ⟨_, rfl⟩; obtain ⟨c41, hc41⟩ : ∃ c_, c_ = c0 - (t140 : Int).toNat := ⟨_, rfl⟩; have hy41 : y159.length = l0.length - (t140 : Int).toNat := (by rw [Ny159.out, List.length_drop] <;> omega); rw [show (l0).drop (t140 : Int).toNat = y159 from Ny159.out.symm] at hr41; replace hr41 : Kd.C k29 _ A41 y159.length y159 := (by rw [hA41]; exact hr41); rw [← hy41, ← hA41, ← hc41] at hcut41; have HR162 := Aside0.mk hr41; have HC162 := Aside0.mk (show y159.length ≤ c41 from by rw [hy41, hc41]; exact Nat.sub_le_sub_right hroom41 _); clear hr41 hC41 hroom41 hi041 hsz41 hc41; have KY41 := Aside0.mk hy41; have KA41 := Aside0.mk hA41; clear hy41 hA41; replace q41 := eq_true q41) | ((with_reducible refine gate_builtin (b := .append) (xs := #[.tmp 67, .tmp 70]) rfl ?_); at_builtin; refine Kd.R_append_rows k29 (w0 := w) w.heap.size rfl (.tmp 67) (.tmp 70) 23 29 (.agg #[(.string ⟨#[]⟩), (.int .i64 0)]) 24 rfl Try.underlying23 info29 rfl (by decide) (by omega) v157 y156 y159 _ _ _ (fun _ => True) (fun _ => False) rfl rfl ?aO ?aR (fun _ _ h => h) (fun _ h => h.elim) ?aF ?aB ?aS ?aL ?_; (case aR => exact cc (Kd.C_below HR162.out HB.out)); (case aB => exact (bp HB.out)); (case aF => exact (fun _ _ => trivial)); (case aO => exact (kr HO158.out)); (case aS => exact (below_size (bp HB.out))); (case aL => have := LMc37.out; omega); intro v164 w42 ho hb hg hat; rw [← Ny163.out] at ho; have n0_ := Aside0.mk (hb); have n1_ := Aside0.mk (ho); clear HB; clear HO158; have HB := n0_; have HO165 := n1_; clear n0_ n1_; clear ho hb hg hat))
                          go_ret2
                          exact ⟨_, fe, by (with_reducible repeat (first | apply Kd.R_alloc | apply Kd.R_drewN | apply Kd.R_drew)); exact HO165.out, bp HB.out⟩
                        · rw [if_neg c37] at H
                          exact absurd H (by simp)
                      · rw [if_neg c34] at H
                        exact absurd H (by simp)
                    · rw [if_neg c33] at H
                      exact absurd H (by simp)
                  · rw [if_neg c32] at H
                    exact absurd H (by simp)
                · rw [if_neg c31] at H
                  exact absurd H (by simp)

/-! ### spec_l20Rd_odd: function 125 -/
def spec_l20Rd_odd.f (k : Nat) (s0_0 : List Int) (s0_1 : Int) (a1 : Int) : Option (Bool × Int) := if a1 > 0 then ((spec_l20Rd_pick.f k s0_0 s0_1 a1).bind fun bt166 => (some ((bt166.1 == (wrap64 (a1 - 1))), bt166.2))) else (some (false, s0_1))
theorem spec_l20Rd_odd.mono : ∀ a0 a1 a2 k, LeO (spec_l20Rd_odd.f k a0 a1 a2) (spec_l20Rd_odd.f (k + 1) a0 a1 a2) := by
  intro a0 a1 a2 k
  unfold spec_l20Rd_odd.f
  repeat' first
      | (with_reducible exact spec_l20Rd_pick.mono _ _ _ _)
      | (with_reducible exact LeO.refl _)
      | (with_reducible exact LeO.none _)
      | (with_reducible refine LeO.ite ?_ ?_)
      | (with_reducible refine LeO.bind ?_ (fun _ => ?_))
      | exact spec_l20Rd_pick.mono _ _ _ _
      | exact LeO.none _
      | refine LeO.ite ?_ ?_
      | refine LeO.bind ?_ (fun _ => ?_)
theorem spec_l20Rd_odd.s0 {P0 Q : Prop} (B0 : P0) (h : P0 → Q := by (intro b0_; repeat (first | (with_reducible first | exact b0_ | apply IsS147.alloc | apply IsS147.drewN | apply IsS147.drew | apply IsS147.set_1) | exact b0_))) : Q := h B0
theorem spec_l20Rd_odd.s1 {P0 P1 Q : Prop} (B0 : P0) (B1 : P1) (h : P0 → P1 → Q := by (intro b0_ b1_; repeat (first | (with_reducible first | exact b0_ | apply below_alloc | apply pw_below_drewN | apply below_drew1 | refine below_set ?_ (IsS147.ge b1_)) | exact b0_))) : Q := h B0 B1
theorem spec_l20Rd_odd.s2 {P0 Q : Prop} (B0 : P0) (h : P0 → Q := by (intro b0_; repeat (first | (with_reducible first | exact b0_ | apply KeepBut.set_ | apply keep_drewN | apply keep_drew | apply keep_alloc) | exact b0_))) : Q := h B0
set_option maxHeartbeats 8000000 in
set_option maxRecDepth 100000 in
theorem spec_l20Rd_odd.calls (k : Nat) (g : Nat) (s0_0 : List Int) (s0_1 : Int) (a1 : Int) (r1 : Bool) (r2 : Int) (w0 w : World) (hI : IsS147 w0 w g s0_0 s0_1) (hB : Below w0.heap.size w0 w) (h : spec_l20Rd_odd.f k s0_0 s0_1 a1 = some (r1, r2)) :
    Calls Try.prog 125 #[.pointer (some ⟨g, 0, none⟩), .int .i64 a1] w fun e w' => e = .returned (.bool r1) ∧ IsS147 w0 w' g s0_0 r2 ∧ Below w0.heap.size w0 w' ∧ KeepBut w w' g none := by
  have HI0 := Aside0.mk hI
  have HK := Aside0.mk (KeepBut.refl w g none)
  have HL := Aside0.mk hB.size
  clear hI
  have HW0 := Aside0.mk hB.size
  have HB := Aside0.mk hB
  clear hB
  have H : (if a1 > 0 then ((spec_l20Rd_pick.f k s0_0 s0_1 a1).bind fun bt166 => (some ((bt166.1 == (wrap64 (a1 - 1))), bt166.2))) else (some (false, s0_1))) = some (r1, r2) := h
  clear h
  by_cases c3 : a1 > 0
  · rw [if_pos c3] at H
    have c3b0 : decide (0 < a1) = true := decide_eq_true c3
    clear c3
    replace H := Option.bind_eq_some_iff.mp H
    obtain ⟨⟨t166, t167⟩, A40, H⟩ := H
    replace H : (some ((t166 == (wrap64 (a1 - 1))), t167)) = some (r1, r2) := H
    have A4 := Aside0.mk A40
    clear A40
    simp only [Option.some.injEq, Prod.mk.injEq] at H
    obtain ⟨rfl, rfl⟩ := H
    go_enter Try.func125, Try.ntmps125
    go_wp2_with (first | (go_at_call 78; (with_reducible refine (spec_l20Rd_pick.calls k g s0_0 s0_1 a1 t166 t167 w0 _ ?side1 ?side2 A4.out).mono ?_); (case side1 => exact spec_l20Rd_odd.s0 HI0.out); (case side2 => exact spec_l20Rd_odd.s1 HB.out HI0.out); rintro e w5 ⟨rfl, hi, hb, hk⟩; have n0_ := Aside0.mk (KeepBut.trans (spec_l20Rd_odd.s2 HK.out) hk (.inl rfl)); have n1_ := Aside0.mk (hb); have n2_ := Aside0.mk (hi); clear HK; clear HB; clear HI0; have HK := n0_; have HB := n1_; have HI0 := n2_; clear n0_ n1_ n2_; (try clear hb); (try clear hb2); (try clear hk); (try clear hi)))
    go_ret
    exact ⟨fe, spec_l20Rd_odd.s0 HI0.out, spec_l20Rd_odd.s1 HB.out HI0.out, spec_l20Rd_odd.s2 HK.out⟩
  · rw [if_neg c3] at H
    have c3b0 : decide (0 < a1) = false := decide_eq_false c3
    clear c3
    simp only [Option.some.injEq, Prod.mk.injEq] at H
    obtain ⟨rfl, rfl⟩ := H
    go_enter Try.func125, Try.ntmps125
    go_wp2
    go_ret
    exact ⟨fe, spec_l20Rd_odd.s0 HI0.out, spec_l20Rd_odd.s1 HB.out HI0.out, spec_l20Rd_odd.s2 HK.out⟩

/-! ### spec_l20Key: function 122 -/
def spec_l20Key.l0 : Nat → ByteArray → Int → List Int → Int → Option (ByteArray × Int)
  | 0, _, _, _, _ => none
  | k + 1, x5, x6, x1000, x1001 => if x6 > 0 then ((spec_l20Rd_pick.f k x1000 x1001 4).bind fun bt186 => ((some (([(wrap64 (97 + bt186.1)) % 256] : List Int) : List Int)).bind fun y188 => (if x5.size + (strOfNums y188).size ≤ 9223372036854775807 then (spec_l20Key.l0 k (x5 ++ (strOfNums y188)) (wrap64 (x6 - 1)) x1000 bt186.2) else (none)))) else (some (x5, x1001))
def spec_l20Key.f (k : Nat) (s0_0 : List Int) (s0_1 : Int) (a1 : Int) : Option (ByteArray × Int) := (spec_l20Rd_odd.f k s0_0 s0_1 a1).bind fun bt168 => (if bt168.1 = true then ((some (([(⟨#[]⟩ : ByteArray), (⟨#[65]⟩ : ByteArray), (⟨#[97, 49]⟩ : ByteArray), (⟨#[97, 98, 99, 100, 101]⟩ : ByteArray), (⟨#[98, 123]⟩ : ByteArray), (⟨#[97, 32, 98]⟩ : ByteArray)] : List ByteArray) : List ByteArray)).bind fun y170 => ((spec_l20Rd_pick.f k s0_0 bt168.2 6).bind fun bt173 => (if 0 ≤ bt173.1 then (if bt173.1 < (y170.length : Int) then (some (rdOf ByteArray.empty y170 bt173.1, bt173.2)) else (none)) else (none)))) else ((spec_l20Rd_pick.f k s0_0 bt168.2 12).bind fun bt176 => (if bt176.1 = 11 then ((some (([(⟨#[122, 122, 122, 122]⟩ : ByteArray), (⟨#[122, 122, 122]⟩ : ByteArray), (⟨#[97, 122, 122, 122]⟩ : ByteArray), (⟨#[122]⟩ : ByteArray), (⟨#[97, 97, 97, 97]⟩ : ByteArray)] : List ByteArray) : List ByteArray)).bind fun y178 => ((spec_l20Rd_pick.f k s0_0 bt176.2 5).bind fun bt181 => (if 0 ≤ bt181.1 then (if bt181.1 < (y178.length : Int) then (some (rdOf ByteArray.empty y178 bt181.1, bt181.2)) else (none)) else (none)))) else ((spec_l20Rd_pick.f k s0_0 bt176.2 2).bind fun bt184 => (spec_l20Key.l0 k (⟨#[]⟩ : ByteArray) (wrap64 (1 + bt184.1)) s0_0 bt184.2)))))
theorem spec_l20Key.mono_l : ∀ k, (∀ y0 y1 y2 y3, LeO (spec_l20Key.l0 k y0 y1 y2 y3) (spec_l20Key.l0 (k + 1) y0 y1 y2 y3))
  | 0 => fun _ _ _ _ r h => by simp [spec_l20Key.l0] at h
  | k + 1 => by
    have ih0 := spec_l20Key.mono_l k
    · intro y0 y1 y2 y3
      unfold spec_l20Key.l0
      repeat' first
      | (with_reducible exact ih0 _ _ _ _)
      | (with_reducible exact spec_l20Rd_odd.mono _ _ _ _)
      | (with_reducible exact spec_l20Rd_pick.mono _ _ _ _)
      | (with_reducible exact LeO.refl _)
      | (with_reducible exact LeO.none _)
      | (with_reducible refine LeO.ite ?_ ?_)
      | (with_reducible refine LeO.bind ?_ (fun _ => ?_))
      | exact ih0 _ _ _ _
      | exact spec_l20Rd_odd.mono _ _ _ _
      | exact spec_l20Rd_pick.mono _ _ _ _
      | exact LeO.none _
      | refine LeO.ite ?_ ?_
      | refine LeO.bind ?_ (fun _ => ?_)
theorem spec_l20Key.mono : ∀ a0 a1 a2 k, LeO (spec_l20Key.f k a0 a1 a2) (spec_l20Key.f (k + 1) a0 a1 a2) := by
  intro a0 a1 a2 k
  have ih0 := spec_l20Key.mono_l k
  unfold spec_l20Key.f
  repeat' first
      | (with_reducible exact ih0 _ _ _ _)
      | (with_reducible exact spec_l20Rd_odd.mono _ _ _ _)
      | (with_reducible exact spec_l20Rd_pick.mono _ _ _ _)
      | (with_reducible exact LeO.refl _)
      | (with_reducible exact LeO.none _)
      | (with_reducible refine LeO.ite ?_ ?_)
      | (with_reducible refine LeO.bind ?_ (fun _ => ?_))
      | exact ih0 _ _ _ _
      | exact spec_l20Rd_odd.mono _ _ _ _
      | exact spec_l20Rd_pick.mono _ _ _ _
      | exact LeO.none _
      | refine LeO.ite ?_ ?_
      | refine LeO.bind ?_ (fun _ => ?_)
theorem spec_l20Key.s0 {P0 Q : Prop} (B0 : P0) (h : P0 → Q := by (intro b0_; repeat (first | (with_reducible first | exact b0_ | apply IsS147.alloc | apply IsS147.drewN | apply IsS147.drew | apply IsS147.set_1) | exact b0_))) : Q := h B0
theorem spec_l20Key.s1 {P0 P1 Q : Prop} (B0 : P0) (B1 : P1) (h : P0 → P1 → Q := by (intro b0_ b1_; repeat (first | (with_reducible first | exact b0_ | apply below_alloc | apply pw_below_drewN | apply below_drew1 | refine below_set ?_ (IsS147.ge b1_)) | exact b0_))) : Q := h B0 B1
theorem spec_l20Key.s2 {P0 Q : Prop} (B0 : P0) (h : P0 → Q := by (intro b0_; repeat (first | (with_reducible first | exact b0_ | apply KeepBut.set_ | apply keep_drewN | apply keep_drew | apply keep_alloc) | exact b0_))) : Q := h B0
set_option maxHeartbeats 8000000 in
set_option maxRecDepth 100000 in
theorem spec_l20Key.calls (k : Nat) (g : Nat) (s0_0 : List Int) (s0_1 : Int) (a1 : Int) (r1 : ByteArray) (r2 : Int) (w0 w : World) (hI : IsS147 w0 w g s0_0 s0_1) (hB : Below w0.heap.size w0 w) (h : spec_l20Key.f k s0_0 s0_1 a1 = some (r1, r2)) :
    Calls Try.prog 122 #[.pointer (some ⟨g, 0, none⟩), .int .i64 a1] w fun e w' => e = .returned (.string r1) ∧ IsS147 w0 w' g s0_0 r2 ∧ Below w0.heap.size w0 w' ∧ KeepBut w w' g none := by
  have HI0 := Aside0.mk hI
  have HK := Aside0.mk (KeepBut.refl w g none)
  have HL := Aside0.mk hB.size
  clear hI
  have HW0 := Aside0.mk hB.size
  have HB := Aside0.mk hB
  clear hB
  have H : ((spec_l20Rd_odd.f k s0_0 s0_1 a1).bind fun bt168 => (if bt168.1 = true then ((some (([(⟨#[]⟩ : ByteArray), (⟨#[65]⟩ : ByteArray), (⟨#[97, 49]⟩ : ByteArray), (⟨#[97, 98, 99, 100, 101]⟩ : ByteArray), (⟨#[98, 123]⟩ : ByteArray), (⟨#[97, 32, 98]⟩ : ByteArray)] : List ByteArray) : List ByteArray)).bind fun y170 => ((spec_l20Rd_pick.f k s0_0 bt168.2 6).bind fun bt173 => (if 0 ≤ bt173.1 then (if bt173.1 < (y170.length : Int) then (some (rdOf ByteArray.empty y170 bt173.1, bt173.2)) else (none)) else (none)))) else ((spec_l20Rd_pick.f k s0_0 bt168.2 12).bind fun bt176 => (if bt176.1 = 11 then ((some (([(⟨#[122, 122, 122, 122]⟩ : ByteArray), (⟨#[122, 122, 122]⟩ : ByteArray), (⟨#[97, 122, 122, 122]⟩ : ByteArray), (⟨#[122]⟩ : ByteArray), (⟨#[97, 97, 97, 97]⟩ : ByteArray)] : List ByteArray) : List ByteArray)).bind fun y178 => ((spec_l20Rd_pick.f k s0_0 bt176.2 5).bind fun bt181 => (if 0 ≤ bt181.1 then (if bt181.1 < (y178.length : Int) then (some (rdOf ByteArray.empty y178 bt181.1, bt181.2)) else (none)) else (none)))) else ((spec_l20Rd_pick.f k s0_0 bt176.2 2).bind fun bt184 => (spec_l20Key.l0 k (⟨#[]⟩ : ByteArray) (wrap64 (1 + bt184.1)) s0_0 bt184.2)))))) = some (r1, r2) := h
  clear h
  replace H := Option.bind_eq_some_iff.mp H
  obtain ⟨⟨t168, t169⟩, A30, H⟩ := H
  replace H : (if t168 = true then ((some (([(⟨#[]⟩ : ByteArray), (⟨#[65]⟩ : ByteArray), (⟨#[97, 49]⟩ : ByteArray), (⟨#[97, 98, 99, 100, 101]⟩ : ByteArray), (⟨#[98, 123]⟩ : ByteArray), (⟨#[97, 32, 98]⟩ : ByteArray)] : List ByteArray) : List ByteArray)).bind fun y170 => ((spec_l20Rd_pick.f k s0_0 t169 6).bind fun bt173 => (if 0 ≤ bt173.1 then (if bt173.1 < (y170.length : Int) then (some (rdOf ByteArray.empty y170 bt173.1, bt173.2)) else (none)) else (none)))) else ((spec_l20Rd_pick.f k s0_0 t169 12).bind fun bt176 => (if bt176.1 = 11 then ((some (([(⟨#[122, 122, 122, 122]⟩ : ByteArray), (⟨#[122, 122, 122]⟩ : ByteArray), (⟨#[97, 122, 122, 122]⟩ : ByteArray), (⟨#[122]⟩ : ByteArray), (⟨#[97, 97, 97, 97]⟩ : ByteArray)] : List ByteArray) : List ByteArray)).bind fun y178 => ((spec_l20Rd_pick.f k s0_0 bt176.2 5).bind fun bt181 => (if 0 ≤ bt181.1 then (if bt181.1 < (y178.length : Int) then (some (rdOf ByteArray.empty y178 bt181.1, bt181.2)) else (none)) else (none)))) else ((spec_l20Rd_pick.f k s0_0 bt176.2 2).bind fun bt184 => (spec_l20Key.l0 k (⟨#[]⟩ : ByteArray) (wrap64 (1 + bt184.1)) s0_0 bt184.2))))) = some (r1, r2) := H
  have A3 := Aside0.mk A30
  clear A30
  by_cases c4 : t168 = true
  · subst c4
    have H1 : ((some (([(⟨#[]⟩ : ByteArray), (⟨#[65]⟩ : ByteArray), (⟨#[97, 49]⟩ : ByteArray), (⟨#[97, 98, 99, 100, 101]⟩ : ByteArray), (⟨#[98, 123]⟩ : ByteArray), (⟨#[97, 32, 98]⟩ : ByteArray)] : List ByteArray) : List ByteArray)).bind fun y170 => ((spec_l20Rd_pick.f k s0_0 t169 6).bind fun bt173 => (if 0 ≤ bt173.1 then (if bt173.1 < (y170.length : Int) then (some (rdOf ByteArray.empty y170 bt173.1, bt173.2)) else (none)) else (none)))) = some (r1, r2) := by rw [if_pos rfl] at H; exact H
    clear H
    have H := H1
    clear H1
    obtain ⟨y170, hy170⟩ : ∃ y_ : List ByteArray, y_ = (([(⟨#[]⟩ : ByteArray), (⟨#[65]⟩ : ByteArray), (⟨#[97, 49]⟩ : ByteArray), (⟨#[97, 98, 99, 100, 101]⟩ : ByteArray), (⟨#[98, 123]⟩ : ByteArray), (⟨#[97, 32, 98]⟩ : ByteArray)] : List ByteArray)) := ⟨_, rfl⟩
    replace H : ((spec_l20Rd_pick.f k s0_0 t169 6).bind fun bt173 => (if 0 ≤ bt173.1 then (if bt173.1 < (y170.length : Int) then (some (rdOf ByteArray.empty y170 bt173.1, bt173.2)) else (none)) else (none))) = some (r1, r2) := by first | (rw [hy170]; with_reducible exact H) | (have H2_ := (Option.bind_some _ _).symm.trans H; rw [hy170]; with_reducible exact H2_) | (have H2_ := (Option.bind_some _ _).symm.trans H; with_reducible exact H2_) | with_reducible exact H | (rw [hy170]; exact H) | exact H
    have Ny170 := Aside0.mk hy170
    clear hy170
    replace H := Option.bind_eq_some_iff.mp H
    obtain ⟨⟨t173, t174⟩, A50, H⟩ := H
    replace H : (if 0 ≤ t173 then (if t173 < (y170.length : Int) then (some (rdOf ByteArray.empty y170 t173, t174)) else (none)) else (none)) = some (r1, r2) := H
    have A5 := Aside0.mk A50
    clear A50
    by_cases c6 : 0 ≤ t173
    · rw [if_pos c6] at H
      have c6b0 : decide (0 ≤ t173) = true := decide_eq_true c6
      clear c6
      by_cases c7 : t173 < (y170.length : Int)
      · rw [if_pos c7] at H
        have c7b0 : decide (t173 < (y170.length : Int)) = true := decide_eq_true c7
        clear c7
        simp only [Option.some.injEq, Prod.mk.injEq] at H
        obtain ⟨rfl, rfl⟩ := H
        go_enter Try.func122, Try.ntmps122
        go_wp2_with (first | ((with_reducible refine gate_callee (f := 125) rfl ?_); refine gsl (some 9) rfl Try.func125 #[.pointer (some ⟨g, 0, none⟩), .int .i64 a1] rfl ?_; (with_reducible refine (spec_l20Rd_odd.calls k g s0_0 s0_1 a1 true t169 w0 _ ?side1 ?side2 A3.out).mono ?_); (case side1 => exact spec_l20Key.s0 HI0.out); (case side2 => exact spec_l20Key.s1 HB.out HI0.out); rintro e w8 ⟨rfl, hi, hb, hk⟩; refine ⟨_, rfl, ?_⟩; have n0_ := Aside0.mk (KeepBut.trans (spec_l20Key.s2 HK.out) hk (.inl rfl)); have n1_ := Aside0.mk (hb); have n2_ := Aside0.mk (hi); clear HK; clear HB; clear HI0; have HK := n0_; have HB := n1_; have HI0 := n2_; clear n0_ n1_ n2_; (try clear hb); (try clear hb2); (try clear hk); (try clear hi)) | ((with_reducible refine gate_dst (N := 10) rfl ?_); refine Kd.R_lit Kd.string _ 9 ?hg (N := 10) ?hd (xs := ([(⟨#[]⟩ : ByteArray), (⟨#[65]⟩ : ByteArray), (⟨#[97, 49]⟩ : ByteArray), (⟨#[97, 98, 99, 100, 101]⟩ : ByteArray), (⟨#[98, 123]⟩ : ByteArray), (⟨#[97, 32, 98]⟩ : ByteArray)] : List ByteArray)) (inner := [.string (⟨#[]⟩ : ByteArray), .string (⟨#[65]⟩ : ByteArray), .string (⟨#[97, 49]⟩ : ByteArray), .string (⟨#[97, 98, 99, 100, 101]⟩ : ByteArray), .string (⟨#[98, 123]⟩ : ByteArray), .string (⟨#[97, 32, 98]⟩ : ByteArray)]) (ok := fun _ => True) (okp := fun _ => True) ?hr ?hp (fun _ hk => hk) trivial (Below.refl _ _) (Nat.le_refl _) (by simp) ?_; (case hd => rfl); (case hg => rfl); (case hr => first | (go_simp; done) | (go_simp; rfl)); (case hp => exact (Reps.one (show Kd.M Kd.string _ _ _ (⟨#[]⟩ : ByteArray) [.string (⟨#[]⟩ : ByteArray)] from rfl) (Reps.one (show Kd.M Kd.string _ _ _ (⟨#[65]⟩ : ByteArray) [.string (⟨#[65]⟩ : ByteArray)] from rfl) (Reps.one (show Kd.M Kd.string _ _ _ (⟨#[97, 49]⟩ : ByteArray) [.string (⟨#[97, 49]⟩ : ByteArray)] from rfl) (Reps.one (show Kd.M Kd.string _ _ _ (⟨#[97, 98, 99, 100, 101]⟩ : ByteArray) [.string (⟨#[97, 98, 99, 100, 101]⟩ : ByteArray)] from rfl) (Reps.one (show Kd.M Kd.string _ _ _ (⟨#[98, 123]⟩ : ByteArray) [.string (⟨#[98, 123]⟩ : ByteArray)] from rfl) (Reps.one (show Kd.M Kd.string _ _ _ (⟨#[97, 32, 98]⟩ : ByteArray) [.string (⟨#[97, 32, 98]⟩ : ByteArray)] from rfl) (Reps.none _ _)))))))); intro v171 w9 ho10 hb hg_ hnew_; clear hg_ hnew_; (first | rw [← Ny170.out] at ho10 | (simp only [Int.reduceToNat] at ho10; rw [← Ny170.out] at ho10)); have n0_ := Aside0.mk (Kd.R_lower ho10 (keep_size (w := w) (g := g) (row := none) (spec_l20Key.s2 HK.out))); have n1_ := Aside0.mk (IsS147.below (spec_l20Key.s0 HI0.out) hb); have n2_ := Aside0.mk (KeepBut.trans (spec_l20Key.s2 HK.out) (KeepBut.of_below hb g none) (.inl rfl)); have n3_ := Aside0.mk (below_step (spec_l20Key.s1 HB.out HI0.out) hb); clear HI0; clear HK; clear HB; have HO172 := n0_; have HI0 := n1_; have HK := n2_; have HB := n3_; clear n0_ n1_ n2_ n3_; clear hb ho10) | ((with_reducible refine gate_callee (f := 78) rfl ?_); refine gsl (some 12) rfl Try.func78 #[.pointer (some ⟨g, 0, none⟩), .int .i64 6] rfl ?_; (with_reducible refine (spec_l20Rd_pick.calls k g s0_0 t169 6 t173 t174 w0 _ ?side1 ?side2 A5.out).mono ?_); (case side1 => exact spec_l20Key.s0 HI0.out); (case side2 => exact spec_l20Key.s1 HB.out HI0.out); rintro e w11 ⟨rfl, hi, hb, hk⟩; refine ⟨_, rfl, ?_⟩; have n0_ := Aside0.mk (Kd.R_mono (Kd.R_keep (IsS147.apart (show IsS147 w0 _ g s0_0 t169 from spec_l20Key.s0 HI0.out) (kr HO172.out) (by decide)) hk (fun _ h => h.2)) (fun _ h => h.1)); have n1_ := Aside0.mk (KeepBut.trans (spec_l20Key.s2 HK.out) hk (.inl rfl)); have n2_ := Aside0.mk (hb); have n3_ := Aside0.mk (hi); clear HO172; clear HK; clear HB; clear HI0; have HO172 := n0_; have HK := n1_; have HB := n2_; have HI0 := n3_; clear n0_ n1_ n2_ n3_; (try clear hb); (try clear hb2); (try clear hk); (try clear hi); obtain ⟨Ao12, co12, eo12⟩ := Kd.R_slice HO172.out; subst eo12; have p175 : 0 ≤ (t173 : Int) := of_decide_eq_true (by first | (with_reducible assumption) | assumption); have q175 : t173 < (y170.length : Int) := of_decide_eq_true (by first | (with_reducible assumption) | assumption); obtain ⟨ad175, e175, hx175_0⟩ := Kd.at_string (Kd.R_reads' HO172.out).2.2 t173 p175 q175; cases e175; replace p175 := eq_true p175; replace q175 := eq_true q175))
        go_ret
        exact ⟨fe, spec_l20Key.s0 HI0.out, spec_l20Key.s1 HB.out HI0.out, spec_l20Key.s2 HK.out⟩
      · rw [if_neg c7] at H
        exact absurd H (by simp)
    · rw [if_neg c6] at H
      exact absurd H (by simp)
  · replace c4 := Bool.eq_false_iff.mpr c4
    subst c4
    have H1 : ((spec_l20Rd_pick.f k s0_0 t169 12).bind fun bt176 => (if bt176.1 = 11 then ((some (([(⟨#[122, 122, 122, 122]⟩ : ByteArray), (⟨#[122, 122, 122]⟩ : ByteArray), (⟨#[97, 122, 122, 122]⟩ : ByteArray), (⟨#[122]⟩ : ByteArray), (⟨#[97, 97, 97, 97]⟩ : ByteArray)] : List ByteArray) : List ByteArray)).bind fun y178 => ((spec_l20Rd_pick.f k s0_0 bt176.2 5).bind fun bt181 => (if 0 ≤ bt181.1 then (if bt181.1 < (y178.length : Int) then (some (rdOf ByteArray.empty y178 bt181.1, bt181.2)) else (none)) else (none)))) else ((spec_l20Rd_pick.f k s0_0 bt176.2 2).bind fun bt184 => (spec_l20Key.l0 k (⟨#[]⟩ : ByteArray) (wrap64 (1 + bt184.1)) s0_0 bt184.2)))) = some (r1, r2) := by rw [if_neg (show ¬ (false = true) by decide)] at H; exact H
    clear H
    have H := H1
    clear H1
    replace H := Option.bind_eq_some_iff.mp H
    obtain ⟨⟨t176, t177⟩, A130, H⟩ := H
    replace H : (if t176 = 11 then ((some (([(⟨#[122, 122, 122, 122]⟩ : ByteArray), (⟨#[122, 122, 122]⟩ : ByteArray), (⟨#[97, 122, 122, 122]⟩ : ByteArray), (⟨#[122]⟩ : ByteArray), (⟨#[97, 97, 97, 97]⟩ : ByteArray)] : List ByteArray) : List ByteArray)).bind fun y178 => ((spec_l20Rd_pick.f k s0_0 t177 5).bind fun bt181 => (if 0 ≤ bt181.1 then (if bt181.1 < (y178.length : Int) then (some (rdOf ByteArray.empty y178 bt181.1, bt181.2)) else (none)) else (none)))) else ((spec_l20Rd_pick.f k s0_0 t177 2).bind fun bt184 => (spec_l20Key.l0 k (⟨#[]⟩ : ByteArray) (wrap64 (1 + bt184.1)) s0_0 bt184.2))) = some (r1, r2) := H
    have A13 := Aside0.mk A130
    clear A130
    by_cases c14 : t176 = 11
    · rw [if_pos c14] at H
      have c14b0 : (t176 == 11) = true := beq_iff_eq.mpr c14
      have c14b1 : (t176 != 11) = false := bne_eq_false_iff_eq.mpr c14
      clear c14
      obtain ⟨y178, hy178⟩ : ∃ y_ : List ByteArray, y_ = (([(⟨#[122, 122, 122, 122]⟩ : ByteArray), (⟨#[122, 122, 122]⟩ : ByteArray), (⟨#[97, 122, 122, 122]⟩ : ByteArray), (⟨#[122]⟩ : ByteArray), (⟨#[97, 97, 97, 97]⟩ : ByteArray)] : List ByteArray)) := ⟨_, rfl⟩
      replace H : ((spec_l20Rd_pick.f k s0_0 t177 5).bind fun bt181 => (if 0 ≤ bt181.1 then (if bt181.1 < (y178.length : Int) then (some (rdOf ByteArray.empty y178 bt181.1, bt181.2)) else (none)) else (none))) = some (r1, r2) := by first | (rw [hy178]; with_reducible exact H) | (have H2_ := (Option.bind_some _ _).symm.trans H; rw [hy178]; with_reducible exact H2_) | (have H2_ := (Option.bind_some _ _).symm.trans H; with_reducible exact H2_) | with_reducible exact H | (rw [hy178]; exact H) | exact H
      have Ny178 := Aside0.mk hy178
      clear hy178
      replace H := Option.bind_eq_some_iff.mp H
      obtain ⟨⟨t181, t182⟩, A150, H⟩ := H
      replace H : (if 0 ≤ t181 then (if t181 < (y178.length : Int) then (some (rdOf ByteArray.empty y178 t181, t182)) else (none)) else (none)) = some (r1, r2) := H
      have A15 := Aside0.mk A150
      clear A150
      by_cases c16 : 0 ≤ t181
      · rw [if_pos c16] at H
        have c16b0 : decide (0 ≤ t181) = true := decide_eq_true c16
        clear c16
        by_cases c17 : t181 < (y178.length : Int)
        · rw [if_pos c17] at H
          have c17b0 : decide (t181 < (y178.length : Int)) = true := decide_eq_true c17
          clear c17
          simp only [Option.some.injEq, Prod.mk.injEq] at H
          obtain ⟨rfl, rfl⟩ := H
          go_enter Try.func122, Try.ntmps122
          go_wp2_with (first | ((with_reducible refine gate_callee (f := 125) rfl ?_); refine gsl (some 9) rfl Try.func125 #[.pointer (some ⟨g, 0, none⟩), .int .i64 a1] rfl ?_; (with_reducible refine (spec_l20Rd_odd.calls k g s0_0 s0_1 a1 false t169 w0 _ ?side1 ?side2 A3.out).mono ?_); (case side1 => exact spec_l20Key.s0 HI0.out); (case side2 => exact spec_l20Key.s1 HB.out HI0.out); rintro e w18 ⟨rfl, hi, hb, hk⟩; refine ⟨_, rfl, ?_⟩; have n0_ := Aside0.mk (KeepBut.trans (spec_l20Key.s2 HK.out) hk (.inl rfl)); have n1_ := Aside0.mk (hb); have n2_ := Aside0.mk (hi); clear HK; clear HB; clear HI0; have HK := n0_; have HB := n1_; have HI0 := n2_; clear n0_ n1_ n2_; (try clear hb); (try clear hb2); (try clear hk); (try clear hi)) | ((with_reducible refine gate_callee (f := 78) rfl ?_); refine gsl (some 16) rfl Try.func78 #[.pointer (some ⟨g, 0, none⟩), .int .i64 12] rfl ?_; (with_reducible refine (spec_l20Rd_pick.calls k g s0_0 t169 12 t176 t177 w0 _ ?side1 ?side2 A13.out).mono ?_); (case side1 => exact spec_l20Key.s0 HI0.out); (case side2 => exact spec_l20Key.s1 HB.out HI0.out); rintro e w19 ⟨rfl, hi, hb, hk⟩; refine ⟨_, rfl, ?_⟩; have n0_ := Aside0.mk (KeepBut.trans (spec_l20Key.s2 HK.out) hk (.inl rfl)); have n1_ := Aside0.mk (hb); have n2_ := Aside0.mk (hi); clear HK; clear HB; clear HI0; have HK := n0_; have HB := n1_; have HI0 := n2_; clear n0_ n1_ n2_; (try clear hb); (try clear hb2); (try clear hk); (try clear hi)) | ((with_reducible refine gate_dst (N := 18) rfl ?_); refine Kd.R_lit Kd.string _ 9 ?hg (N := 18) ?hd (xs := ([(⟨#[122, 122, 122, 122]⟩ : ByteArray), (⟨#[122, 122, 122]⟩ : ByteArray), (⟨#[97, 122, 122, 122]⟩ : ByteArray), (⟨#[122]⟩ : ByteArray), (⟨#[97, 97, 97, 97]⟩ : ByteArray)] : List ByteArray)) (inner := [.string (⟨#[122, 122, 122, 122]⟩ : ByteArray), .string (⟨#[122, 122, 122]⟩ : ByteArray), .string (⟨#[97, 122, 122, 122]⟩ : ByteArray), .string (⟨#[122]⟩ : ByteArray), .string (⟨#[97, 97, 97, 97]⟩ : ByteArray)]) (ok := fun _ => True) (okp := fun _ => True) ?hr ?hp (fun _ hk => hk) trivial (Below.refl _ _) (Nat.le_refl _) (by simp) ?_; (case hd => rfl); (case hg => rfl); (case hr => first | (go_simp; done) | (go_simp; rfl)); (case hp => exact (Reps.one (show Kd.M Kd.string _ _ _ (⟨#[122, 122, 122, 122]⟩ : ByteArray) [.string (⟨#[122, 122, 122, 122]⟩ : ByteArray)] from rfl) (Reps.one (show Kd.M Kd.string _ _ _ (⟨#[122, 122, 122]⟩ : ByteArray) [.string (⟨#[122, 122, 122]⟩ : ByteArray)] from rfl) (Reps.one (show Kd.M Kd.string _ _ _ (⟨#[97, 122, 122, 122]⟩ : ByteArray) [.string (⟨#[97, 122, 122, 122]⟩ : ByteArray)] from rfl) (Reps.one (show Kd.M Kd.string _ _ _ (⟨#[122]⟩ : ByteArray) [.string (⟨#[122]⟩ : ByteArray)] from rfl) (Reps.one (show Kd.M Kd.string _ _ _ (⟨#[97, 97, 97, 97]⟩ : ByteArray) [.string (⟨#[97, 97, 97, 97]⟩ : ByteArray)] from rfl) (Reps.none _ _))))))); intro v179 w20 ho21 hb hg_ hnew_; clear hg_ hnew_; (first | rw [← Ny178.out] at ho21 | (simp only [Int.reduceToNat] at ho21; rw [← Ny178.out] at ho21)); have n0_ := Aside0.mk (Kd.R_lower ho21 (keep_size (w := w) (g := g) (row := none) (spec_l20Key.s2 HK.out))); have n1_ := Aside0.mk (IsS147.below (spec_l20Key.s0 HI0.out) hb); have n2_ := Aside0.mk (KeepBut.trans (spec_l20Key.s2 HK.out) (KeepBut.of_below hb g none) (.inl rfl)); have n3_ := Aside0.mk (below_step (spec_l20Key.s1 HB.out HI0.out) hb); clear HI0; clear HK; clear HB; have HO180 := n0_; have HI0 := n1_; have HK := n2_; have HB := n3_; clear n0_ n1_ n2_ n3_; clear hb ho21) | ((with_reducible refine gate_callee (f := 78) rfl ?_); refine gsl (some 20) rfl Try.func78 #[.pointer (some ⟨g, 0, none⟩), .int .i64 5] rfl ?_; (with_reducible refine (spec_l20Rd_pick.calls k g s0_0 t177 5 t181 t182 w0 _ ?side1 ?side2 A15.out).mono ?_); (case side1 => exact spec_l20Key.s0 HI0.out); (case side2 => exact spec_l20Key.s1 HB.out HI0.out); rintro e w22 ⟨rfl, hi, hb, hk⟩; refine ⟨_, rfl, ?_⟩; have n0_ := Aside0.mk (Kd.R_mono (Kd.R_keep (IsS147.apart (show IsS147 w0 _ g s0_0 t177 from spec_l20Key.s0 HI0.out) (kr HO180.out) (by decide)) hk (fun _ h => h.2)) (fun _ h => h.1)); have n1_ := Aside0.mk (KeepBut.trans (spec_l20Key.s2 HK.out) hk (.inl rfl)); have n2_ := Aside0.mk (hb); have n3_ := Aside0.mk (hi); clear HO180; clear HK; clear HB; clear HI0; have HO180 := n0_; have HK := n1_; have HB := n2_; have HI0 := n3_; clear n0_ n1_ n2_ n3_; (try clear hb); (try clear hb2); (try clear hk); (try clear hi); obtain ⟨Ao23, co23, eo23⟩ := Kd.R_slice HO180.out; subst eo23; have p183 : 0 ≤ (t181 : Int) := of_decide_eq_true (by first | (with_reducible assumption) | assumption); have q183 : t181 < (y178.length : Int) := of_decide_eq_true (by first | (with_reducible assumption) | assumption); obtain ⟨ad183, e183, hx183_0⟩ := Kd.at_string (Kd.R_reads' HO180.out).2.2 t181 p183 q183; cases e183; replace p183 := eq_true p183; replace q183 := eq_true q183))
          go_ret
          exact ⟨fe, spec_l20Key.s0 HI0.out, spec_l20Key.s1 HB.out HI0.out, spec_l20Key.s2 HK.out⟩
        · rw [if_neg c17] at H
          exact absurd H (by simp)
      · rw [if_neg c16] at H
        exact absurd H (by simp)
    · rw [if_neg c14] at H
      have c14b0 : (t176 == 11) = false := beq_eq_false_iff_ne.mpr c14
      have c14b1 : (t176 != 11) = true := bne_iff_ne.mpr c14
      replace H := Option.bind_eq_some_iff.mp H
      obtain ⟨⟨t184, t185⟩, A240, H⟩ := H
      replace H : (spec_l20Key.l0 k (⟨#[]⟩ : ByteArray) (wrap64 (1 + t184)) s0_0 t185) = some (r1, r2) := H
      have A24 := Aside0.mk A240
      clear A240
      have H' := Aside0.mk H
      clear H
      go_enter Try.func122, Try.ntmps122
      go_wp2_with (first | ((with_reducible refine gate_callee (f := 125) rfl ?_); refine gsl (some 9) rfl Try.func125 #[.pointer (some ⟨g, 0, none⟩), .int .i64 a1] rfl ?_; (with_reducible refine (spec_l20Rd_odd.calls k g s0_0 s0_1 a1 false t169 w0 _ ?side1 ?side2 A3.out).mono ?_); (case side1 => exact spec_l20Key.s0 HI0.out); (case side2 => exact spec_l20Key.s1 HB.out HI0.out); rintro e w25 ⟨rfl, hi, hb, hk⟩; refine ⟨_, rfl, ?_⟩; have n0_ := Aside0.mk (KeepBut.trans (spec_l20Key.s2 HK.out) hk (.inl rfl)); have n1_ := Aside0.mk (hb); have n2_ := Aside0.mk (hi); clear HK; clear HB; clear HI0; have HK := n0_; have HB := n1_; have HI0 := n2_; clear n0_ n1_ n2_; (try clear hb); (try clear hb2); (try clear hk); (try clear hi)) | ((with_reducible refine gate_callee (f := 78) rfl ?_); refine gsl (some 16) rfl Try.func78 #[.pointer (some ⟨g, 0, none⟩), .int .i64 12] rfl ?_; (with_reducible refine (spec_l20Rd_pick.calls k g s0_0 t169 12 t176 t177 w0 _ ?side1 ?side2 A13.out).mono ?_); (case side1 => exact spec_l20Key.s0 HI0.out); (case side2 => exact spec_l20Key.s1 HB.out HI0.out); rintro e w26 ⟨rfl, hi, hb, hk⟩; refine ⟨_, rfl, ?_⟩; have n0_ := Aside0.mk (KeepBut.trans (spec_l20Key.s2 HK.out) hk (.inl rfl)); have n1_ := Aside0.mk (hb); have n2_ := Aside0.mk (hi); clear HK; clear HB; clear HI0; have HK := n0_; have HB := n1_; have HI0 := n2_; clear n0_ n1_ n2_; (try clear hb); (try clear hb2); (try clear hk); (try clear hi)) | ((with_reducible refine gate_callee (f := 78) rfl ?_); refine gsl (some 24) rfl Try.func78 #[.pointer (some ⟨g, 0, none⟩), .int .i64 2] rfl ?_; (with_reducible refine (spec_l20Rd_pick.calls k g s0_0 t177 2 t184 t185 w0 _ ?side1 ?side2 A24.out).mono ?_); (case side1 => exact spec_l20Key.s0 HI0.out); (case side2 => exact spec_l20Key.s1 HB.out HI0.out); rintro e w27 ⟨rfl, hi, hb, hk⟩; refine ⟨_, rfl, ?_⟩; have n0_ := Aside0.mk (KeepBut.trans (spec_l20Key.s2 HK.out) hk (.inl rfl)); have n1_ := Aside0.mk (hb); have n2_ := Aside0.mk (hi); clear HK; clear HB; clear HI0; have HK := n0_; have HB := n1_; have HI0 := n2_; clear n0_ n1_ n2_; (try clear hb); (try clear hb2); (try clear hk); (try clear hi)))
      go_loopg [5, 6] k (fun kq v5 v6 w' => ∃ (x5_1 : ByteArray) (x6_1 : Int) (x1001_1 : Int), v5 = .string x5_1 ∧ v6 = .int .i64 x6_1 ∧ Aside0 (spec_l20Key.l0 kq x5_1 x6_1 s0_0 x1001_1 = some (r1, r2)) ∧ Aside0 (kq ≤ k) ∧ Aside0 (IsS147 w0 w' g s0_0 x1001_1) ∧ Aside0 (KeepBut w w' g none) ∧ Aside0 (Below w0.heap.size w0 w'))
      case atStart => exact ⟨((⟨#[]⟩ : ByteArray)), (wrap64 (1 + t184)), (t185), (by first | rfl | (simp; done) | (simp [*]; done) | (simp [bne_nil_, beq_nil_]; done)), (by first | rfl | (simp; done) | (simp [*]; done) | (simp [bne_nil_, beq_nil_]; done)), H', ⟨Nat.le_refl _⟩, ⟨spec_l20Key.s0 HI0.out⟩, ⟨spec_l20Key.s2 HK.out⟩, ⟨spec_l20Key.s1 HB.out HI0.out⟩⟩
      case round =>
        clear H'
        try clear c1
        try clear p1
        try clear q1
        try clear hx1
        try clear p2
        try clear c4
        try clear c6
        try clear c6b0
        try clear p6
        try clear c7
        try clear c7b0
        try clear c12
        try clear c14
        try clear c14b0
        try clear c14b1
        try clear c16
        try clear c16b0
        try clear c17
        try clear c17b0
        try clear p17
        try clear q17
        try clear hx17
        try clear p18
        try clear q18
        try clear hx18
        try clear hx175_0
        try clear hx183_0
        try clear p175
        try clear p183
        try clear q175
        try clear q183
        obtain ⟨x5_1, x6_1, x1001_1, rfl, rfl, HA, HK1, HI0, HK, HB⟩ := hrel
        cases gk with
        | zero => exact absurd HA.out (by simp [spec_l20Key.l0])
        | succ k1 =>
          have H := HA.out
          clear HA
          simp only [spec_l20Key.l0] at H
          by_cases c28 : x6_1 > 0
          · rw [if_pos c28] at H
            have c28b0 : decide (0 < x6_1) = true := decide_eq_true c28
            clear c28
            replace H := Option.bind_eq_some_iff.mp H
            obtain ⟨⟨t186, t187⟩, A290, H⟩ := H
            replace H : ((some (([(wrap64 (97 + t186)) % 256] : List Int) : List Int)).bind fun y188 => (if x5_1.size + (strOfNums y188).size ≤ 9223372036854775807 then (spec_l20Key.l0 k1 (x5_1 ++ (strOfNums y188)) (wrap64 (x6_1 - 1)) s0_0 t187) else (none))) = some (r1, r2) := H
            have A29 := Aside0.mk A290
            clear A290
            obtain ⟨y188, hy188⟩ : ∃ y_ : List Int, y_ = (([(wrap64 (97 + t186)) % 256] : List Int)) := ⟨_, rfl⟩
            replace H : (if x5_1.size + (strOfNums y188).size ≤ 9223372036854775807 then (spec_l20Key.l0 k1 (x5_1 ++ (strOfNums y188)) (wrap64 (x6_1 - 1)) s0_0 t187) else (none)) = some (r1, r2) := by first | (rw [hy188]; with_reducible exact H) | (have H2_ := (Option.bind_some _ _).symm.trans H; rw [hy188]; with_reducible exact H2_) | (have H2_ := (Option.bind_some _ _).symm.trans H; with_reducible exact H2_) | with_reducible exact H | (rw [hy188]; exact H) | exact H
            have Ny188 := Aside0.mk hy188
            clear hy188
            by_cases c30 : x5_1.size + (strOfNums y188).size ≤ 9223372036854775807
            · rw [if_pos c30] at H
              have c30b0 := eq_true c30
              have c30b1 : decide (x5_1.size + (strOfNums y188).size ≤ 9223372036854775807) = true := decide_eq_true c30
              try have c30b2 : (9223372036854775807 < x5_1.size + (strOfNums y188).size) = False := eq_false (Nat.not_lt.2 c30)
              have H' := Aside0.mk H
              clear H
              go_wp2_with (first | ((with_reducible refine gate_callee (f := 78) rfl ?_); refine gsl (some 32) rfl Try.func78 #[.pointer (some ⟨g, 0, none⟩), .int .i64 4] rfl ?_; (with_reducible refine (spec_l20Rd_pick.calls k1 g s0_0 x1001_1 4 t186 t187 w0 _ ?side1 ?side2 A29.out).mono ?_); (case side1 => exact spec_l20Key.s0 HI0.out); (case side2 => exact spec_l20Key.s1 HB.out HI0.out); rintro e w31 ⟨rfl, hi, hb, hk⟩; refine ⟨_, rfl, ?_⟩; have n0_ := Aside0.mk (KeepBut.trans (spec_l20Key.s2 HK.out) hk (.inl rfl)); have n1_ := Aside0.mk (hb); have n2_ := Aside0.mk (hi); clear HK; clear HB; clear HI0; have HK := n0_; have HB := n1_; have HI0 := n2_; clear n0_ n1_ n2_; (try clear hb); (try clear hb2); (try clear hk); (try clear hi)) | ((with_reducible refine gate_dst (N := 35) rfl ?_); refine Kd.R_lit (Kd.int .u8) _ 5 ?hg (N := 35) ?hd (xs := ([(wrap64 (97 + t186)) % 256] : List Int)) (inner := [.int .u8 ((wrap64 (97 + t186)) % 256)]) (ok := fun _ => True) (okp := fun _ => True) ?hr ?hp (fun _ hk => hk) trivial (Below.refl _ _) (Nat.le_refl _) (by simp) ?_; (case hd => rfl); (case hg => rfl); (case hr => first | (go_simp; done) | (go_simp; rfl)); (case hp => exact (Reps.one (show Kd.M (Kd.int .u8) _ _ _ ((wrap64 (97 + t186)) % 256) [.int .u8 ((wrap64 (97 + t186)) % 256)] from rfl) (Reps.none _ _))); intro v189 w32 ho33 hb hg_ hnew_; clear hg_ hnew_; (first | rw [← Ny188.out] at ho33 | (simp only [Int.reduceToNat] at ho33; rw [← Ny188.out] at ho33)); have n0_ := Aside0.mk (Kd.R_lower ho33 (keep_size (w := w) (g := g) (row := none) (spec_l20Key.s2 HK.out))); have n1_ := Aside0.mk (IsS147.below (spec_l20Key.s0 HI0.out) hb); have n2_ := Aside0.mk (KeepBut.trans (spec_l20Key.s2 HK.out) (KeepBut.of_below hb g none) (.inl rfl)); have n3_ := Aside0.mk (below_step (spec_l20Key.s1 HB.out HI0.out) hb); clear HI0; clear HK; clear HB; have HO190 := n0_; have HI0 := n1_; have HK := n2_; have HB := n3_; clear n0_ n1_ n2_ n3_; clear hb ho33; have hcv34 := own_string (P := Try.prog) Try.underlying22 Try.underlying5 Try.underlying9 (Kd.own_of_R HO190.out)))
              go_roundg k1
              case measure => have := HK1.out; omega
              case rel => exact ⟨(x5_1 ++ (strOfNums y188)), (wrap64 (x6_1 - 1)), (t187), (by first | rfl | (simp; done) | (simp [*]; done) | (simp [bne_nil_, beq_nil_]; done)), (by first | rfl | (simp; done) | (simp [*]; done) | (simp [bne_nil_, beq_nil_]; done)), H', ⟨by have := HK1.out; omega⟩, ⟨spec_l20Key.s0 HI0.out⟩, ⟨spec_l20Key.s2 HK.out⟩, ⟨spec_l20Key.s1 HB.out HI0.out⟩⟩
            · rw [if_neg c30] at H
              exact absurd H (by simp)
          · rw [if_neg c28] at H
            have c28b0 : decide (0 < x6_1) = false := decide_eq_false c28
            clear c28
            simp only [Option.some.injEq, Prod.mk.injEq] at H
            obtain ⟨rfl, rfl⟩ := H
            go_wp2
            go_ret
            exact ⟨fe, spec_l20Key.s0 HI0.out, spec_l20Key.s1 HB.out HI0.out, spec_l20Key.s2 HK.out⟩

/-! ### spec_l20Value: function 123 -/
def spec_l20Value.f (k : Nat) (s0_0 : List Int) (s0_1 : Int) (a1 : Int) : Option (Int × Int) := (spec_l20Rd_odd.f k s0_0 s0_1 a1).bind fun bt191 => (if bt191.1 = true then ((some (([(-1), 1000] : List Int) : List Int)).bind fun y193 => ((spec_l20Rd_pick.f k s0_0 bt191.2 2).bind fun bt196 => (if 0 ≤ bt196.1 then (if bt196.1 < (y193.length : Int) then (some (rd y193 bt196.1, bt196.2)) else (none)) else (none)))) else ((spec_l20Rd_pick.f k s0_0 bt191.2 20).bind fun bt199 => ((some (([bt199.1, 999] : List Int) : List Int)).bind fun y201 => ((spec_l20Rd_pick.f k s0_0 bt199.2 9).bind fun bt204 => (if 0 ≤ (wrap64 (Int.tdiv bt204.1 8)) then (if (wrap64 (Int.tdiv bt204.1 8)) < (y201.length : Int) then (some (rd y201 (wrap64 (Int.tdiv bt204.1 8)), bt204.2)) else (none)) else (none))))))
theorem spec_l20Value.mono : ∀ a0 a1 a2 k, LeO (spec_l20Value.f k a0 a1 a2) (spec_l20Value.f (k + 1) a0 a1 a2) := by
  intro a0 a1 a2 k
  unfold spec_l20Value.f
  repeat' first
      | (with_reducible exact spec_l20Rd_odd.mono _ _ _ _)
      | (with_reducible exact spec_l20Rd_pick.mono _ _ _ _)
      | (with_reducible exact LeO.refl _)
      | (with_reducible exact LeO.none _)
      | (with_reducible refine LeO.ite ?_ ?_)
      | (with_reducible refine LeO.bind ?_ (fun _ => ?_))
      | exact spec_l20Rd_odd.mono _ _ _ _
      | exact spec_l20Rd_pick.mono _ _ _ _
      | exact LeO.none _
      | refine LeO.ite ?_ ?_
      | refine LeO.bind ?_ (fun _ => ?_)
theorem spec_l20Value.s0 {P0 Q : Prop} (B0 : P0) (h : P0 → Q := by (intro b0_; repeat (first | (with_reducible first | exact b0_ | apply IsS147.alloc | apply IsS147.drewN | apply IsS147.drew | apply IsS147.set_1) | exact b0_))) : Q := h B0
theorem spec_l20Value.s1 {P0 P1 Q : Prop} (B0 : P0) (B1 : P1) (h : P0 → P1 → Q := by (intro b0_ b1_; repeat (first | (with_reducible first | exact b0_ | apply below_alloc | apply pw_below_drewN | apply below_drew1 | refine below_set ?_ (IsS147.ge b1_)) | exact b0_))) : Q := h B0 B1
theorem spec_l20Value.s2 {P0 Q : Prop} (B0 : P0) (h : P0 → Q := by (intro b0_; repeat (first | (with_reducible first | exact b0_ | apply KeepBut.set_ | apply keep_drewN | apply keep_drew | apply keep_alloc) | exact b0_))) : Q := h B0
set_option maxHeartbeats 8000000 in
set_option maxRecDepth 100000 in
theorem spec_l20Value.calls (k : Nat) (g : Nat) (s0_0 : List Int) (s0_1 : Int) (a1 : Int) (r1 : Int) (r2 : Int) (w0 w : World) (hI : IsS147 w0 w g s0_0 s0_1) (hB : Below w0.heap.size w0 w) (h : spec_l20Value.f k s0_0 s0_1 a1 = some (r1, r2)) :
    Calls Try.prog 123 #[.pointer (some ⟨g, 0, none⟩), .int .i64 a1] w fun e w' => e = .returned (.int .i64 r1) ∧ IsS147 w0 w' g s0_0 r2 ∧ Below w0.heap.size w0 w' ∧ KeepBut w w' g none := by
  have HI0 := Aside0.mk hI
  have HK := Aside0.mk (KeepBut.refl w g none)
  have HL := Aside0.mk hB.size
  clear hI
  have HW0 := Aside0.mk hB.size
  have HB := Aside0.mk hB
  clear hB
  have H : ((spec_l20Rd_odd.f k s0_0 s0_1 a1).bind fun bt191 => (if bt191.1 = true then ((some (([(-1), 1000] : List Int) : List Int)).bind fun y193 => ((spec_l20Rd_pick.f k s0_0 bt191.2 2).bind fun bt196 => (if 0 ≤ bt196.1 then (if bt196.1 < (y193.length : Int) then (some (rd y193 bt196.1, bt196.2)) else (none)) else (none)))) else ((spec_l20Rd_pick.f k s0_0 bt191.2 20).bind fun bt199 => ((some (([bt199.1, 999] : List Int) : List Int)).bind fun y201 => ((spec_l20Rd_pick.f k s0_0 bt199.2 9).bind fun bt204 => (if 0 ≤ (wrap64 (Int.tdiv bt204.1 8)) then (if (wrap64 (Int.tdiv bt204.1 8)) < (y201.length : Int) then (some (rd y201 (wrap64 (Int.tdiv bt204.1 8)), bt204.2)) else (none)) else (none))))))) = some (r1, r2) := h
  clear h
  replace H := Option.bind_eq_some_iff.mp H
  obtain ⟨⟨t191, t192⟩, A30, H⟩ := H
  replace H : (if t191 = true then ((some (([(-1), 1000] : List Int) : List Int)).bind fun y193 => ((spec_l20Rd_pick.f k s0_0 t192 2).bind fun bt196 => (if 0 ≤ bt196.1 then (if bt196.1 < (y193.length : Int) then (some (rd y193 bt196.1, bt196.2)) else (none)) else (none)))) else ((spec_l20Rd_pick.f k s0_0 t192 20).bind fun bt199 => ((some (([bt199.1, 999] : List Int) : List Int)).bind fun y201 => ((spec_l20Rd_pick.f k s0_0 bt199.2 9).bind fun bt204 => (if 0 ≤ (wrap64 (Int.tdiv bt204.1 8)) then (if (wrap64 (Int.tdiv bt204.1 8)) < (y201.length : Int) then (some (rd y201 (wrap64 (Int.tdiv bt204.1 8)), bt204.2)) else (none)) else (none)))))) = some (r1, r2) := H
  have A3 := Aside0.mk A30
  clear A30
  by_cases c4 : t191 = true
  · subst c4
    have H1 : ((some (([(-1), 1000] : List Int) : List Int)).bind fun y193 => ((spec_l20Rd_pick.f k s0_0 t192 2).bind fun bt196 => (if 0 ≤ bt196.1 then (if bt196.1 < (y193.length : Int) then (some (rd y193 bt196.1, bt196.2)) else (none)) else (none)))) = some (r1, r2) := by rw [if_pos rfl] at H; exact H
    clear H
    have H := H1
    clear H1
    obtain ⟨y193, hy193⟩ : ∃ y_ : List Int, y_ = (([(-1), 1000] : List Int)) := ⟨_, rfl⟩
    replace H : ((spec_l20Rd_pick.f k s0_0 t192 2).bind fun bt196 => (if 0 ≤ bt196.1 then (if bt196.1 < (y193.length : Int) then (some (rd y193 bt196.1, bt196.2)) else (none)) else (none))) = some (r1, r2) := by first | (rw [hy193]; with_reducible exact H) | (have H2_ := (Option.bind_some _ _).symm.trans H; rw [hy193]; with_reducible exact H2_) | (have H2_ := (Option.bind_some _ _).symm.trans H; with_reducible exact H2_) | with_reducible exact H | (rw [hy193]; exact H) | exact H
    have Ny193 := Aside0.mk hy193
    clear hy193
    replace H := Option.bind_eq_some_iff.mp H
    obtain ⟨⟨t196, t197⟩, A50, H⟩ := H
    replace H : (if 0 ≤ t196 then (if t196 < (y193.length : Int) then (some (rd y193 t196, t197)) else (none)) else (none)) = some (r1, r2) := H
    have A5 := Aside0.mk A50
    clear A50
    by_cases c6 : 0 ≤ t196
    · rw [if_pos c6] at H
      have c6b0 : decide (0 ≤ t196) = true := decide_eq_true c6
      clear c6
      by_cases c7 : t196 < (y193.length : Int)
      · rw [if_pos c7] at H
        have c7b0 : decide (t196 < (y193.length : Int)) = true := decide_eq_true c7
        clear c7
        simp only [Option.some.injEq, Prod.mk.injEq] at H
        obtain ⟨rfl, rfl⟩ := H
        go_enter Try.func123, Try.ntmps123
        go_wp2_with (first | ((with_reducible refine gate_callee (f := 125) rfl ?_); refine gsl (some 7) rfl Try.func125 #[.pointer (some ⟨g, 0, none⟩), .int .i64 a1] rfl ?_; (with_reducible refine (spec_l20Rd_odd.calls k g s0_0 s0_1 a1 true t192 w0 _ ?side1 ?side2 A3.out).mono ?_); (case side1 => exact spec_l20Value.s0 HI0.out); (case side2 => exact spec_l20Value.s1 HB.out HI0.out); rintro e w8 ⟨rfl, hi, hb, hk⟩; refine ⟨_, rfl, ?_⟩; have n0_ := Aside0.mk (KeepBut.trans (spec_l20Value.s2 HK.out) hk (.inl rfl)); have n1_ := Aside0.mk (hb); have n2_ := Aside0.mk (hi); clear HK; clear HB; clear HI0; have HK := n0_; have HB := n1_; have HI0 := n2_; clear n0_ n1_ n2_; (try clear hb); (try clear hb2); (try clear hk); (try clear hi)) | ((with_reducible refine gate_dst (N := 8) rfl ?_); refine Kd.R_lit (Kd.int .i64) _ 3 ?hg (N := 8) ?hd (xs := ([(-1), 1000] : List Int)) (inner := [.int .i64 (-1), .int .i64 1000]) (ok := fun _ => True) (okp := fun _ => True) ?hr ?hp (fun _ hk => hk) trivial (Below.refl _ _) (Nat.le_refl _) (by simp) ?_; (case hd => rfl); (case hg => rfl); (case hr => first | (go_simp; done) | (go_simp; rfl)); (case hp => exact (Reps.one (show Kd.M (Kd.int .i64) _ _ _ (-1) [.int .i64 (-1)] from rfl) (Reps.one (show Kd.M (Kd.int .i64) _ _ _ 1000 [.int .i64 1000] from rfl) (Reps.none _ _)))); intro v194 w9 ho10 hb hg_ hnew_; clear hg_ hnew_; (first | rw [← Ny193.out] at ho10 | (simp only [Int.reduceToNat] at ho10; rw [← Ny193.out] at ho10)); have n0_ := Aside0.mk (Kd.R_lower ho10 (keep_size (w := w) (g := g) (row := none) (spec_l20Value.s2 HK.out))); have n1_ := Aside0.mk (IsS147.below (spec_l20Value.s0 HI0.out) hb); have n2_ := Aside0.mk (KeepBut.trans (spec_l20Value.s2 HK.out) (KeepBut.of_below hb g none) (.inl rfl)); have n3_ := Aside0.mk (below_step (spec_l20Value.s1 HB.out HI0.out) hb); clear HI0; clear HK; clear HB; have HO195 := n0_; have HI0 := n1_; have HK := n2_; have HB := n3_; clear n0_ n1_ n2_ n3_; clear hb ho10) | ((with_reducible refine gate_callee (f := 78) rfl ?_); refine gsl (some 10) rfl Try.func78 #[.pointer (some ⟨g, 0, none⟩), .int .i64 2] rfl ?_; (with_reducible refine (spec_l20Rd_pick.calls k g s0_0 t192 2 t196 t197 w0 _ ?side1 ?side2 A5.out).mono ?_); (case side1 => exact spec_l20Value.s0 HI0.out); (case side2 => exact spec_l20Value.s1 HB.out HI0.out); rintro e w11 ⟨rfl, hi, hb, hk⟩; refine ⟨_, rfl, ?_⟩; have n0_ := Aside0.mk (Kd.R_mono (Kd.R_keep (IsS147.apart (show IsS147 w0 _ g s0_0 t192 from spec_l20Value.s0 HI0.out) (kr HO195.out) (by decide)) hk (fun _ h => h.2)) (fun _ h => h.1)); have n1_ := Aside0.mk (KeepBut.trans (spec_l20Value.s2 HK.out) hk (.inl rfl)); have n2_ := Aside0.mk (hb); have n3_ := Aside0.mk (hi); clear HO195; clear HK; clear HB; clear HI0; have HO195 := n0_; have HK := n1_; have HB := n2_; have HI0 := n3_; clear n0_ n1_ n2_ n3_; (try clear hb); (try clear hb2); (try clear hk); (try clear hi); obtain ⟨Ao12, co12, eo12⟩ := Kd.R_slice HO195.out; subst eo12; have p198 : 0 ≤ (t196 : Int) := of_decide_eq_true (by first | (with_reducible assumption) | assumption); have q198 : t196 < (y193.length : Int) := of_decide_eq_true (by first | (with_reducible assumption) | assumption); obtain ⟨ad198, e198, hx198_0⟩ := Kd.at_int (Kd.R_reads' HO195.out).2.2 t196 p198 q198; cases e198; replace p198 := eq_true p198; replace q198 := eq_true q198))
        go_ret
        exact ⟨fe, spec_l20Value.s0 HI0.out, spec_l20Value.s1 HB.out HI0.out, spec_l20Value.s2 HK.out⟩
      · rw [if_neg c7] at H
        exact absurd H (by simp)
    · rw [if_neg c6] at H
      exact absurd H (by simp)
  · replace c4 := Bool.eq_false_iff.mpr c4
    subst c4
    have H1 : ((spec_l20Rd_pick.f k s0_0 t192 20).bind fun bt199 => ((some (([bt199.1, 999] : List Int) : List Int)).bind fun y201 => ((spec_l20Rd_pick.f k s0_0 bt199.2 9).bind fun bt204 => (if 0 ≤ (wrap64 (Int.tdiv bt204.1 8)) then (if (wrap64 (Int.tdiv bt204.1 8)) < (y201.length : Int) then (some (rd y201 (wrap64 (Int.tdiv bt204.1 8)), bt204.2)) else (none)) else (none))))) = some (r1, r2) := by rw [if_neg (show ¬ (false = true) by decide)] at H; exact H
    clear H
    have H := H1
    clear H1
    replace H := Option.bind_eq_some_iff.mp H
    obtain ⟨⟨t199, t200⟩, A130, H⟩ := H
    replace H : ((some (([t199, 999] : List Int) : List Int)).bind fun y201 => ((spec_l20Rd_pick.f k s0_0 t200 9).bind fun bt204 => (if 0 ≤ (wrap64 (Int.tdiv bt204.1 8)) then (if (wrap64 (Int.tdiv bt204.1 8)) < (y201.length : Int) then (some (rd y201 (wrap64 (Int.tdiv bt204.1 8)), bt204.2)) else (none)) else (none)))) = some (r1, r2) := H
    have A13 := Aside0.mk A130
    clear A130
    obtain ⟨y201, hy201⟩ : ∃ y_ : List Int, y_ = (([t199, 999] : List Int)) := ⟨_, rfl⟩
    replace H : ((spec_l20Rd_pick.f k s0_0 t200 9).bind fun bt204 => (if 0 ≤ (wrap64 (Int.tdiv bt204.1 8)) then (if (wrap64 (Int.tdiv bt204.1 8)) < (y201.length : Int) then (some (rd y201 (wrap64 (Int.tdiv bt204.1 8)), bt204.2)) else (none)) else (none))) = some (r1, r2) := by first | (rw [hy201]; with_reducible exact H) | (have H2_ := (Option.bind_some _ _).symm.trans H; rw [hy201]; with_reducible exact H2_) | (have H2_ := (Option.bind_some _ _).symm.trans H; with_reducible exact H2_) | with_reducible exact H | (rw [hy201]; exact H) | exact H
    have Ny201 := Aside0.mk hy201
    clear hy201
    replace H := Option.bind_eq_some_iff.mp H
    obtain ⟨⟨t204, t205⟩, A140, H⟩ := H
    replace H : (if 0 ≤ (wrap64 (Int.tdiv t204 8)) then (if (wrap64 (Int.tdiv t204 8)) < (y201.length : Int) then (some (rd y201 (wrap64 (Int.tdiv t204 8)), t205)) else (none)) else (none)) = some (r1, r2) := H
    have A14 := Aside0.mk A140
    clear A140
    obtain ⟨ji15, hji15⟩ : ∃ j_ : Int, (wrap64 (Int.tdiv t204 8)) = j_ := ⟨_, rfl⟩
    replace H : (if 0 ≤ (ji15) then (if (ji15) < (y201.length : Int) then (some (rd y201 (ji15), t205)) else (none)) else (none)) = some (r1, r2) := by first | (rw [hji15] at H; exact H) | (simp only [hji15] at H ⊢; exact H)
    (try rw [hji15] at A3)
    (try rw [hji15] at A13)
    (try rw [hji15] at A14)
    have hji15w : (IntKind.i64.wrap (Int.tdiv t204 8)) = ji15 := (i64_w _).trans hji15
    by_cases c16 : 0 ≤ (ji15)
    · rw [if_pos c16] at H
      have c16b0 : decide (0 ≤ (ji15)) = true := decide_eq_true c16
      clear c16
      by_cases c17 : (ji15) < (y201.length : Int)
      · rw [if_pos c17] at H
        have c17b0 : decide ((ji15) < (y201.length : Int)) = true := decide_eq_true c17
        clear c17
        simp only [Option.some.injEq, Prod.mk.injEq] at H
        obtain ⟨rfl, rfl⟩ := H
        go_enter Try.func123, Try.ntmps123
        go_wp2_with (first | ((with_reducible refine gate_callee (f := 125) rfl ?_); refine gsl (some 7) rfl Try.func125 #[.pointer (some ⟨g, 0, none⟩), .int .i64 a1] rfl ?_; (with_reducible refine (spec_l20Rd_odd.calls k g s0_0 s0_1 a1 false t192 w0 _ ?side1 ?side2 A3.out).mono ?_); (case side1 => exact spec_l20Value.s0 HI0.out); (case side2 => exact spec_l20Value.s1 HB.out HI0.out); rintro e w18 ⟨rfl, hi, hb, hk⟩; refine ⟨_, rfl, ?_⟩; have n0_ := Aside0.mk (KeepBut.trans (spec_l20Value.s2 HK.out) hk (.inl rfl)); have n1_ := Aside0.mk (hb); have n2_ := Aside0.mk (hi); clear HK; clear HB; clear HI0; have HK := n0_; have HB := n1_; have HI0 := n2_; clear n0_ n1_ n2_; (try clear hb); (try clear hb2); (try clear hk); (try clear hi)) | ((with_reducible refine gate_callee (f := 78) rfl ?_); refine gsl (some 14) rfl Try.func78 #[.pointer (some ⟨g, 0, none⟩), .int .i64 20] rfl ?_; (with_reducible refine (spec_l20Rd_pick.calls k g s0_0 t192 20 t199 t200 w0 _ ?side1 ?side2 A13.out).mono ?_); (case side1 => exact spec_l20Value.s0 HI0.out); (case side2 => exact spec_l20Value.s1 HB.out HI0.out); rintro e w19 ⟨rfl, hi, hb, hk⟩; refine ⟨_, rfl, ?_⟩; have n0_ := Aside0.mk (KeepBut.trans (spec_l20Value.s2 HK.out) hk (.inl rfl)); have n1_ := Aside0.mk (hb); have n2_ := Aside0.mk (hi); clear HK; clear HB; clear HI0; have HK := n0_; have HB := n1_; have HI0 := n2_; clear n0_ n1_ n2_; (try clear hb); (try clear hb2); (try clear hk); (try clear hi)) | ((with_reducible refine gate_dst (N := 15) rfl ?_); refine Kd.R_lit (Kd.int .i64) _ 3 ?hg (N := 15) ?hd (xs := ([t199, 999] : List Int)) (inner := [.int .i64 t199, .int .i64 999]) (ok := fun _ => True) (okp := fun _ => True) ?hr ?hp (fun _ hk => hk) trivial (Below.refl _ _) (Nat.le_refl _) (by simp) ?_; (case hd => rfl); (case hg => rfl); (case hr => first | (go_simp; done) | (go_simp; rfl)); (case hp => exact (Reps.one (show Kd.M (Kd.int .i64) _ _ _ t199 [.int .i64 t199] from rfl) (Reps.one (show Kd.M (Kd.int .i64) _ _ _ 999 [.int .i64 999] from rfl) (Reps.none _ _)))); intro v202 w20 ho21 hb hg_ hnew_; clear hg_ hnew_; (first | rw [← Ny201.out] at ho21 | (simp only [Int.reduceToNat] at ho21; rw [← Ny201.out] at ho21)); have n0_ := Aside0.mk (Kd.R_lower ho21 (keep_size (w := w) (g := g) (row := none) (spec_l20Value.s2 HK.out))); have n1_ := Aside0.mk (IsS147.below (spec_l20Value.s0 HI0.out) hb); have n2_ := Aside0.mk (KeepBut.trans (spec_l20Value.s2 HK.out) (KeepBut.of_below hb g none) (.inl rfl)); have n3_ := Aside0.mk (below_step (spec_l20Value.s1 HB.out HI0.out) hb); clear HI0; clear HK; clear HB; have HO203 := n0_; have HI0 := n1_; have HK := n2_; have HB := n3_; clear n0_ n1_ n2_ n3_; clear hb ho21) | ((with_reducible refine gate_callee (f := 78) rfl ?_); refine gsl (some 17) rfl Try.func78 #[.pointer (some ⟨g, 0, none⟩), .int .i64 9] rfl ?_; (with_reducible refine (spec_l20Rd_pick.calls k g s0_0 t200 9 t204 t205 w0 _ ?side1 ?side2 A14.out).mono ?_); (case side1 => exact spec_l20Value.s0 HI0.out); (case side2 => exact spec_l20Value.s1 HB.out HI0.out); rintro e w22 ⟨rfl, hi, hb, hk⟩; refine ⟨_, rfl, ?_⟩; have n0_ := Aside0.mk (Kd.R_mono (Kd.R_keep (IsS147.apart (show IsS147 w0 _ g s0_0 t200 from spec_l20Value.s0 HI0.out) (kr HO203.out) (by decide)) hk (fun _ h => h.2)) (fun _ h => h.1)); have n1_ := Aside0.mk (KeepBut.trans (spec_l20Value.s2 HK.out) hk (.inl rfl)); have n2_ := Aside0.mk (hb); have n3_ := Aside0.mk (hi); clear HO203; clear HK; clear HB; clear HI0; have HO203 := n0_; have HK := n1_; have HB := n2_; have HI0 := n3_; clear n0_ n1_ n2_ n3_; (try clear hb); (try clear hb2); (try clear hk); (try clear hi); obtain ⟨Ao23, co23, eo23⟩ := Kd.R_slice HO203.out; subst eo23; have p206 : 0 ≤ ((ji15) : Int) := of_decide_eq_true (by first | (with_reducible assumption) | assumption); have q206 : (ji15) < (y201.length : Int) := of_decide_eq_true (by first | (with_reducible assumption) | assumption); obtain ⟨ad206, e206, hx206_0⟩ := Kd.at_int (Kd.R_reads' HO203.out).2.2 (ji15) p206 q206; cases e206; replace p206 := eq_true p206; replace q206 := eq_true q206))
        go_ret
        exact ⟨by first | rfl | (simp [errW_none, errW_some] <;> rfl) | (simp only [← hji15]; first | rfl | (simp [errW_none, errW_some] <;> rfl)) | (simp [*, errW_none, errW_some] <;> rfl) | (simp only [IntKind.wrap_u8, show ∀ n_ : Int, wrap64 (n_ % 256) = n_ % 256 from fun n_ => by unfold wrap64; omega]; rfl), spec_l20Value.s0 HI0.out, spec_l20Value.s1 HB.out HI0.out, spec_l20Value.s2 HK.out⟩
      · rw [if_neg c17] at H
        exact absurd H (by simp)
    · rw [if_neg c16] at H
      exact absurd H (by simp)

/-! ### spec_l1Weight: function 158 -/
def spec_l1Weight.f (a0 : Int) : Option (Int) := if a0 = 0 then (some 18279) else (if a0 = 1 then (some 703) else (if a0 = 2 then (some 27) else (some 1)))
set_option maxHeartbeats 8000000 in
set_option maxRecDepth 100000 in
theorem spec_l1Weight.calls (a0 : Int) (r : Int) (w : World) (h : spec_l1Weight.f a0 = some r) :
    Calls Try.prog 158 #[.int .i64 a0] w fun e w' => e = .returned (.int .i64 r) ∧ Drawn0 w w' := by
  have H : (if a0 = 0 then (some 18279) else (if a0 = 1 then (some 703) else (if a0 = 2 then (some 27) else (some 1)))) = some r := h
  clear h
  by_cases c2 : a0 = 0
  · rw [if_pos c2] at H
    have c2b0 : (a0 == 0) = true := beq_iff_eq.mpr c2
    have c2b1 : (a0 != 0) = false := bne_eq_false_iff_eq.mpr c2
    clear c2
    obtain rfl := Option.some.inj H
    go_enter Try.func158, Try.ntmps158
    go_wp2
    go_ret
    exact ⟨by first | rfl | (simp; done) | (simp [*]; done) | (simp [bne_nil_, beq_nil_]; done), by repeat (first | exact Drawn0.refl _ | apply Drawn0.step)⟩
  · rw [if_neg c2] at H
    have c2b0 : (a0 == 0) = false := beq_eq_false_iff_ne.mpr c2
    have c2b1 : (a0 != 0) = true := bne_iff_ne.mpr c2
    by_cases c3 : a0 = 1
    · rw [if_pos c3] at H
      have c3b0 : (a0 == 1) = true := beq_iff_eq.mpr c3
      have c3b1 : (a0 != 1) = false := bne_eq_false_iff_eq.mpr c3
      clear c3
      obtain rfl := Option.some.inj H
      go_enter Try.func158, Try.ntmps158
      go_wp2
      go_ret
      exact ⟨by first | rfl | (simp; done) | (simp [*]; done) | (simp [bne_nil_, beq_nil_]; done), by repeat (first | exact Drawn0.refl _ | apply Drawn0.step)⟩
    · rw [if_neg c3] at H
      have c3b0 : (a0 == 1) = false := beq_eq_false_iff_ne.mpr c3
      have c3b1 : (a0 != 1) = true := bne_iff_ne.mpr c3
      by_cases c4 : a0 = 2
      · rw [if_pos c4] at H
        have c4b0 : (a0 == 2) = true := beq_iff_eq.mpr c4
        have c4b1 : (a0 != 2) = false := bne_eq_false_iff_eq.mpr c4
        clear c4
        obtain rfl := Option.some.inj H
        go_enter Try.func158, Try.ntmps158
        go_wp2
        go_ret
        exact ⟨by first | rfl | (simp; done) | (simp [*]; done) | (simp [bne_nil_, beq_nil_]; done), by repeat (first | exact Drawn0.refl _ | apply Drawn0.step)⟩
      · rw [if_neg c4] at H
        have c4b0 : (a0 == 2) = false := beq_eq_false_iff_ne.mpr c4
        have c4b1 : (a0 != 2) = true := bne_iff_ne.mpr c4
        obtain rfl := Option.some.inj H
        go_enter Try.func158, Try.ntmps158
        go_wp2
        go_ret
        exact ⟨by first | rfl | (simp; done) | (simp [*]; done) | (simp [bne_nil_, beq_nil_]; done), by repeat (first | exact Drawn0.refl _ | apply Drawn0.step)⟩

end Go.Proofs.Ytfeeifefmenlmaa.PFnPartDigests
