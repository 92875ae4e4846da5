-- Written by a program of this session, in the manner of the kit's print (wip/pp.py): functions and their contracts.
import Derived.Test.YtfeeifefmenlmaaPFnExactDiffPartsx0
import Derived.Test.YtfeeifefmenlmaaPFnExactDiffPartsx1
import Derived.Test.YtfeeifefmenlmaaPFnExactDiffPartsx2
import Derived.Test.YtfeeifefmenlmaaPFnExactDiffPartsx3
import Derived.Test.YtfeeifefmenlmaaPFnExactDiffPartsx8
import Derived.Test.YtfeeifefmenlmaaPFnExactDiffPartsx11
import Derived.Test.YtfeeifefmenlmaaPFnExactDiffPartsx12
namespace Go.Proofs.Ytfeeifefmenlmaa.PFnExactDiffParts
open Go.RowKit Go.Proofs.YtfeeifefmenlmaaW.PrintWords Go.Proofs.YtfeeifefmenlmaaW.PrintLast Go.Proofs.YtfeeifefmenlmaaW.PrintMore
attribute [local go_sem] binOp_leq_str binOp_gtr_str binOp_geq_str max2_int min2_int max_two min_two max_three min_three max_four min_four   -- for this text's walks alone
set_option linter.unusedVariables false
set_option linter.unusedSimpArgs false

/-! ### impl_DiffParts: function 49 -/
mutual
def impl_DiffParts.j0 : Nat → List (S29) → List (S29) → List (S83) → Bool → Option (List Int)
  | 0, _, _, _, _ => none
  | k + 1, x0, x1, x2, x23 => if x23 = true then (some ([] : List Int)) else ((impl_PartDigests.f k x0 x2).bind fun t324 => ((impl_PartDigests.f k x1 x2).bind fun t327 => (impl_DiffParts.l0 k t324 t327 ([] : List Int) (x2.length : Int) 0)))
def impl_DiffParts.l0 : Nat → List Int → List Int → List Int → Int → Int → Option (List Int)
  | 0, _, _, _, _, _ => none
  | k + 1, x7, x8, x9, x31, x32 => if x32 < x31 then (if 0 ≤ x32 then (if x32 < (x7.length : Int) then (if x32 < (x8.length : Int) then (if (rd x7 x32) = (rd x8 x32) then (impl_DiffParts.l0 k x7 x8 x9 x31 (wrap64 (x32 + 1))) else (if x9.length < 17592186044416 then (impl_DiffParts.l0 k x7 x8 (x9 ++ [x32]) x31 (wrap64 (x32 + 1))) else (none))) else (none)) else (none)) else (none)) else (some x9)
end
def impl_DiffParts.f (k : Nat) (l0 : List (S29)) (l1 : List (S29)) (l2 : List (S83)) : Option (List Int) := (impl_PairsValid.f k l0).bind fun t321 => (if t321 = true then ((impl_PairsValid.f k l1).bind fun t322 => (if t322 = true then ((impl_PartitionValid.f k l2).bind fun t323 => (impl_DiffParts.j0 k l0 l1 l2 (!t323))) else (impl_DiffParts.j0 k l0 l1 l2 true))) else (impl_DiffParts.j0 k l0 l1 l2 true))
theorem impl_DiffParts.mono_l : ∀ k, (∀ y0 y1 y2 y3, LeO (impl_DiffParts.j0 k y0 y1 y2 y3) (impl_DiffParts.j0 (k + 1) y0 y1 y2 y3)) ∧ (∀ y0 y1 y2 y3 y4, LeO (impl_DiffParts.l0 k y0 y1 y2 y3 y4) (impl_DiffParts.l0 (k + 1) y0 y1 y2 y3 y4))
  | 0 => ⟨fun _ _ _ _ r h => by simp [impl_DiffParts.j0] at h, fun _ _ _ _ _ r h => by simp [impl_DiffParts.l0] at h⟩
  | k + 1 => by
    obtain ⟨ih0, ih1⟩ := impl_DiffParts.mono_l k
    refine ⟨?_, ?_⟩
    · intro y0 y1 y2 y3
      unfold impl_DiffParts.j0
      repeat' first
      | (with_reducible exact ih0 _ _ _ _)
      | (with_reducible exact ih1 _ _ _ _ _)
      | (with_reducible exact impl_PairsValid.mono _ _)
      | (with_reducible exact impl_PartDigests.mono _ _ _)
      | (with_reducible exact impl_PartitionValid.mono _ _)
      | (with_reducible exact LeO.refl _)
      | (with_reducible exact LeO.none _)
      | (with_reducible refine LeO.ite ?_ ?_)
      | (with_reducible refine LeO.bind ?_ (fun _ => ?_))
      | exact ih0 _ _ _ _
      | exact ih1 _ _ _ _ _
      | exact impl_PairsValid.mono _ _
      | exact impl_PartDigests.mono _ _ _
      | exact impl_PartitionValid.mono _ _
      | exact LeO.none _
      | refine LeO.ite ?_ ?_
      | refine LeO.bind ?_ (fun _ => ?_)
    · intro y0 y1 y2 y3 y4
      unfold impl_DiffParts.l0
      repeat' first
      | (with_reducible exact ih0 _ _ _ _)
      | (with_reducible exact ih1 _ _ _ _ _)
      | (with_reducible exact impl_PairsValid.mono _ _)
      | (with_reducible exact impl_PartDigests.mono _ _ _)
      | (with_reducible exact impl_PartitionValid.mono _ _)
      | (with_reducible exact LeO.refl _)
      | (with_reducible exact LeO.none _)
      | (with_reducible refine LeO.ite ?_ ?_)
      | (with_reducible refine LeO.bind ?_ (fun _ => ?_))
      | exact ih0 _ _ _ _
      | exact ih1 _ _ _ _ _
      | exact impl_PairsValid.mono _ _
      | exact impl_PartDigests.mono _ _ _
      | exact impl_PartitionValid.mono _ _
      | exact LeO.none _
      | refine LeO.ite ?_ ?_
      | refine LeO.bind ?_ (fun _ => ?_)
theorem impl_DiffParts.mono : ∀ a0 a1 a2 k, LeO (impl_DiffParts.f k a0 a1 a2) (impl_DiffParts.f (k + 1) a0 a1 a2) := by
  intro a0 a1 a2 k
  obtain ⟨ih0, ih1⟩ := impl_DiffParts.mono_l k
  unfold impl_DiffParts.f
  repeat' first
      | (with_reducible exact ih0 _ _ _ _)
      | (with_reducible exact ih1 _ _ _ _ _)
      | (with_reducible exact impl_PairsValid.mono _ _)
      | (with_reducible exact impl_PartDigests.mono _ _ _)
      | (with_reducible exact impl_PartitionValid.mono _ _)
      | (with_reducible exact LeO.refl _)
      | (with_reducible exact LeO.none _)
      | (with_reducible refine LeO.ite ?_ ?_)
      | (with_reducible refine LeO.bind ?_ (fun _ => ?_))
      | exact ih0 _ _ _ _
      | exact ih1 _ _ _ _ _
      | exact impl_PairsValid.mono _ _
      | exact impl_PartDigests.mono _ _ _
      | exact impl_PartitionValid.mono _ _
      | exact LeO.none _
      | refine LeO.ite ?_ ?_
      | refine LeO.bind ?_ (fun _ => ?_)
set_option maxHeartbeats 8000000 in
set_option maxRecDepth 100000 in
theorem impl_DiffParts.calls (k : Nat) (A0 : Option Addr) (c0 : Nat) (l0 : List (S29)) (A1 : Option Addr) (c1 : Nat) (l1 : List (S29)) (A2 : Option Addr) (c2 : Nat) (l2 : List (S83)) (r : List Int) (w : World) (hr0 : Kd.C k29 w A0 l0.length l0) (hc0 : l0.length ≤ c0) (hr1 : Kd.C k29 w A1 l1.length l1) (hc1 : l1.length ≤ c1) (hr2 : Kd.C k83 w A2 l2.length l2) (hc2 : l2.length ≤ c2) (h : impl_DiffParts.f k l0 l1 l2 = some r) :
    Calls Try.prog 49 #[.slice A0 l0.length c0, .slice A1 l1.length c1, .slice A2 l2.length c2] w fun e w' => ∃ v0_ : Value, e = .returned (v0_) ∧ Kd.R (Kd.int .i64) 3 w' w.heap.size (fun _ => True) v0_ r ∧ Below w.heap.size w w' := by
  have HR0 := Aside0.mk hr0
  have HC0 := Aside0.mk hc0
  clear hr0 hc0
  have HR1 := Aside0.mk hr1
  have HC1 := Aside0.mk hc1
  clear hr1 hc1
  have HR2 := Aside0.mk hr2
  have HC2 := Aside0.mk hc2
  clear hr2 hc2
  have HB := Aside0.mk (Below.refl w.heap.size w)
  have H : ((impl_PairsValid.f k l0).bind fun t321 => (if t321 = true then ((impl_PairsValid.f k l1).bind fun t322 => (if t322 = true then ((impl_PartitionValid.f k l2).bind fun t323 => (impl_DiffParts.j0 k l0 l1 l2 (!t323))) else (impl_DiffParts.j0 k l0 l1 l2 true))) else (impl_DiffParts.j0 k l0 l1 l2 true))) = some r := h
  clear h
  have HC4 := Aside0.mk H
  clear H
  go_enter Try.func49, Try.ntmps49
  go_upto_region 1 with (fail)
  repeat (go_quiet (fail); go_upto_region 1 with (fail))
  go_cut [23] (fun v23 wc => ∃ (kq : Nat) (x23_3 : Bool), v23 = .bool x23_3 ∧ Aside0 (impl_DiffParts.j0 kq l0 l1 l2 x23_3 = some r) ∧ Aside0 (kq ≤ k) ∧ Aside0 (Below w.heap.size w wc))
  case first =>
    have H := HC4.out
    clear HC4
    replace H := Option.bind_eq_some_iff.mp H
    obtain ⟨t321, A50, H⟩ := H
    replace H : (if t321 = true then ((impl_PairsValid.f k l1).bind fun t322 => (if t322 = true then ((impl_PartitionValid.f k l2).bind fun t323 => (impl_DiffParts.j0 k l0 l1 l2 (!t323))) else (impl_DiffParts.j0 k l0 l1 l2 true))) else (impl_DiffParts.j0 k l0 l1 l2 true)) = some r := H
    have A5 := Aside0.mk A50
    clear A50
    by_cases c6 : t321 = true
    · subst c6
      have H1 : ((impl_PairsValid.f k l1).bind fun t322 => (if t322 = true then ((impl_PartitionValid.f k l2).bind fun t323 => (impl_DiffParts.j0 k l0 l1 l2 (!t323))) else (impl_DiffParts.j0 k l0 l1 l2 true))) = some r := by rw [if_pos rfl] at H; exact H
      clear H
      have H := H1
      clear H1
      replace H := Option.bind_eq_some_iff.mp H
      obtain ⟨t322, A70, H⟩ := H
      replace H : (if t322 = true then ((impl_PartitionValid.f k l2).bind fun t323 => (impl_DiffParts.j0 k l0 l1 l2 (!t323))) else (impl_DiffParts.j0 k l0 l1 l2 true)) = some r := H
      have A7 := Aside0.mk A70
      clear A70
      by_cases c8 : t322 = true
      · subst c8
        have H1 : ((impl_PartitionValid.f k l2).bind fun t323 => (impl_DiffParts.j0 k l0 l1 l2 (!t323))) = some r := by rw [if_pos rfl] at H; exact H
        clear H
        have H := H1
        clear H1
        replace H := Option.bind_eq_some_iff.mp H
        obtain ⟨t323, A90, H⟩ := H
        replace H : (impl_DiffParts.j0 k l0 l1 l2 (!t323)) = some r := H
        have A9 := Aside0.mk A90
        clear A90
        have H' := Aside0.mk H
        clear H
        go_wp2_with (first | (go_at_call 17; (with_reducible refine (impl_PairsValid.calls k _ _ l0 true _ ?side1 ?side2 A5.out).mono ?_); (case side1 => exact cc (Kd.C_below HR0.out HB.out)); (case side2 => exact HC0.out); rintro e w10 ⟨rfl, hb⟩; replace HB := an0 HB hb; (try clear hb); (try clear hb2); (try clear hk); (try clear hi)) | (go_at_call 17; (with_reducible refine (impl_PairsValid.calls k _ _ l1 true _ ?side1 ?side2 A7.out).mono ?_); (case side1 => exact cc (Kd.C_below HR1.out HB.out)); (case side2 => exact HC1.out); rintro e w11 ⟨rfl, hb⟩; replace HB := an0 HB hb; (try clear hb); (try clear hb2); (try clear hk); (try clear hi)) | (go_at_call 40; (with_reducible refine (impl_PartitionValid.calls k _ _ l2 t323 _ ?side1 ?side2 A9.out).mono ?_); (case side1 => exact cc (Kd.C_below HR2.out HB.out)); (case side2 => exact HC2.out); rintro e w12 ⟨rfl, hb⟩; replace HB := an0 HB hb; (try clear hb); (try clear hb2); (try clear hk); (try clear hi)))
        repeat (go_quiet (first | (go_at_call 17; (with_reducible refine (impl_PairsValid.calls k _ _ l0 true _ ?side1 ?side2 A5.out).mono ?_); (case side1 => exact cc (Kd.C_below HR0.out HB.out)); (case side2 => exact HC0.out); rintro e w10 ⟨rfl, hb⟩; replace HB := an0 HB hb; (try clear hb); (try clear hb2); (try clear hk); (try clear hi)) | (go_at_call 17; (with_reducible refine (impl_PairsValid.calls k _ _ l1 true _ ?side1 ?side2 A7.out).mono ?_); (case side1 => exact cc (Kd.C_below HR1.out HB.out)); (case side2 => exact HC1.out); rintro e w11 ⟨rfl, hb⟩; replace HB := an0 HB hb; (try clear hb); (try clear hb2); (try clear hk); (try clear hi)) | (go_at_call 40; (with_reducible refine (impl_PartitionValid.calls k _ _ l2 t323 _ ?side1 ?side2 A9.out).mono ?_); (case side1 => exact cc (Kd.C_below HR2.out HB.out)); (case side2 => exact HC2.out); rintro e w12 ⟨rfl, hb⟩; replace HB := an0 HB hb; (try clear hb); (try clear hb2); (try clear hk); (try clear hi))); try go_wp2_with (first | (go_at_call 17; (with_reducible refine (impl_PairsValid.calls k _ _ l0 true _ ?side1 ?side2 A5.out).mono ?_); (case side1 => exact cc (Kd.C_below HR0.out HB.out)); (case side2 => exact HC0.out); rintro e w10 ⟨rfl, hb⟩; replace HB := an0 HB hb; (try clear hb); (try clear hb2); (try clear hk); (try clear hi)) | (go_at_call 17; (with_reducible refine (impl_PairsValid.calls k _ _ l1 true _ ?side1 ?side2 A7.out).mono ?_); (case side1 => exact cc (Kd.C_below HR1.out HB.out)); (case side2 => exact HC1.out); rintro e w11 ⟨rfl, hb⟩; replace HB := an0 HB hb; (try clear hb); (try clear hb2); (try clear hk); (try clear hi)) | (go_at_call 40; (with_reducible refine (impl_PartitionValid.calls k _ _ l2 t323 _ ?side1 ?side2 A9.out).mono ?_); (case side1 => exact cc (Kd.C_below HR2.out HB.out)); (case side2 => exact HC2.out); rintro e w12 ⟨rfl, hb⟩; replace HB := an0 HB hb; (try clear hb); (try clear hb2); (try clear hk); (try clear hi))))
        go_meet
        case rel => exact ⟨_, (!t323), (by first | rfl | (simp; done) | (simp [*]; done) | (simp [bne_nil_, beq_nil_]; done)), H', ⟨by first | omega | exact Nat.le_refl _⟩, ⟨bp HB.out⟩⟩
      · replace c8 := Bool.eq_false_iff.mpr c8
        subst c8
        have H1 : (impl_DiffParts.j0 k l0 l1 l2 true) = some r := by rw [if_neg (show ¬ (false = true) by decide)] at H; exact H
        clear H
        have H := H1
        clear H1
        have H' := Aside0.mk H
        clear H
        go_wp2_with (first | (go_at_call 17; (with_reducible refine (impl_PairsValid.calls k _ _ l0 true _ ?side1 ?side2 A5.out).mono ?_); (case side1 => exact cc (Kd.C_below HR0.out HB.out)); (case side2 => exact HC0.out); rintro e w13 ⟨rfl, hb⟩; replace HB := an0 HB hb; (try clear hb); (try clear hb2); (try clear hk); (try clear hi)) | (go_at_call 17; (with_reducible refine (impl_PairsValid.calls k _ _ l1 false _ ?side1 ?side2 A7.out).mono ?_); (case side1 => exact cc (Kd.C_below HR1.out HB.out)); (case side2 => exact HC1.out); rintro e w14 ⟨rfl, hb⟩; replace HB := an0 HB hb; (try clear hb); (try clear hb2); (try clear hk); (try clear hi)))
        repeat (go_quiet (first | (go_at_call 17; (with_reducible refine (impl_PairsValid.calls k _ _ l0 true _ ?side1 ?side2 A5.out).mono ?_); (case side1 => exact cc (Kd.C_below HR0.out HB.out)); (case side2 => exact HC0.out); rintro e w13 ⟨rfl, hb⟩; replace HB := an0 HB hb; (try clear hb); (try clear hb2); (try clear hk); (try clear hi)) | (go_at_call 17; (with_reducible refine (impl_PairsValid.calls k _ _ l1 false _ ?side1 ?side2 A7.out).mono ?_); (case side1 => exact cc (Kd.C_below HR1.out HB.out)); (case side2 => exact HC1.out); rintro e w14 ⟨rfl, hb⟩; replace HB := an0 HB hb; (try clear hb); (try clear hb2); (try clear hk); (try clear hi))); try go_wp2_with (first | (go_at_call 17; (with_reducible refine (impl_PairsValid.calls k _ _ l0 true _ ?side1 ?side2 A5.out).mono ?_); (case side1 => exact cc (Kd.C_below HR0.out HB.out)); (case side2 => exact HC0.out); rintro e w13 ⟨rfl, hb⟩; replace HB := an0 HB hb; (try clear hb); (try clear hb2); (try clear hk); (try clear hi)) | (go_at_call 17; (with_reducible refine (impl_PairsValid.calls k _ _ l1 false _ ?side1 ?side2 A7.out).mono ?_); (case side1 => exact cc (Kd.C_below HR1.out HB.out)); (case side2 => exact HC1.out); rintro e w14 ⟨rfl, hb⟩; replace HB := an0 HB hb; (try clear hb); (try clear hb2); (try clear hk); (try clear hi))))
        go_meet
        case rel => exact ⟨_, (true), (by first | rfl | (simp; done) | (simp [*]; done) | (simp [bne_nil_, beq_nil_]; done)), H', ⟨by first | omega | exact Nat.le_refl _⟩, ⟨bp HB.out⟩⟩
    · replace c6 := Bool.eq_false_iff.mpr c6
      subst c6
      have H1 : (impl_DiffParts.j0 k l0 l1 l2 true) = some r := by rw [if_neg (show ¬ (false = true) by decide)] at H; exact H
      clear H
      have H := H1
      clear H1
      have H' := Aside0.mk H
      clear H
      go_wp2_with (first | (go_at_call 17; (with_reducible refine (impl_PairsValid.calls k _ _ l0 false _ ?side1 ?side2 A5.out).mono ?_); (case side1 => exact cc (Kd.C_below HR0.out HB.out)); (case side2 => exact HC0.out); rintro e w15 ⟨rfl, hb⟩; replace HB := an0 HB hb; (try clear hb); (try clear hb2); (try clear hk); (try clear hi)))
      repeat (go_quiet (first | (go_at_call 17; (with_reducible refine (impl_PairsValid.calls k _ _ l0 false _ ?side1 ?side2 A5.out).mono ?_); (case side1 => exact cc (Kd.C_below HR0.out HB.out)); (case side2 => exact HC0.out); rintro e w15 ⟨rfl, hb⟩; replace HB := an0 HB hb; (try clear hb); (try clear hb2); (try clear hk); (try clear hi))); try go_wp2_with (first | (go_at_call 17; (with_reducible refine (impl_PairsValid.calls k _ _ l0 false _ ?side1 ?side2 A5.out).mono ?_); (case side1 => exact cc (Kd.C_below HR0.out HB.out)); (case side2 => exact HC0.out); rintro e w15 ⟨rfl, hb⟩; replace HB := an0 HB hb; (try clear hb); (try clear hb2); (try clear hk); (try clear hi))))
      go_meet
      case rel => exact ⟨_, (true), (by first | rfl | (simp; done) | (simp [*]; done) | (simp [bne_nil_, beq_nil_]; done)), H', ⟨by first | omega | exact Nat.le_refl _⟩, ⟨bp HB.out⟩⟩
  case rest =>
    clear HC4
    try clear c1
    try clear c2
    try clear p2
    try clear c4
    try clear c6
    try clear c8
    obtain ⟨kq, x23_3, rfl, HA, HJ3, HB⟩ := hcut
    cases kq with
    | zero => exact absurd HA.out (by simp [impl_DiffParts.j0])
    | succ kj3 =>
      have H := HA.out
      clear HA
      simp only [impl_DiffParts.j0] at H
      by_cases c16 : x23_3 = true
      · subst c16
        have H1 : (some ([] : List Int)) = some r := by rw [if_pos rfl] at H; exact H
        clear H
        have H := H1
        clear H1
        obtain rfl := Option.some.inj H
        go_wp2
        repeat (go_quiet (fail); try go_wp2)
        go_ret
        exact ⟨_, fe, by first | exact Kd.R_nil _ _ _ _ _ | exact Kd.N_nil _ _ _ _ _ | exact Kd.V_nil _ _ _ _ _ | exact Kd.Q_nil _ _ _ _ _ | exact Kd.S_nil _ _ _ _ _, bp HB.out⟩
      · replace c16 := Bool.eq_false_iff.mpr c16
        subst c16
        have H1 : ((impl_PartDigests.f kj3 l0 l2).bind fun t324 => ((impl_PartDigests.f kj3 l1 l2).bind fun t327 => (impl_DiffParts.l0 kj3 t324 t327 ([] : List Int) (l2.length : Int) 0))) = some r := by rw [if_neg (show ¬ (false = true) by decide)] at H; exact H
        clear H
        have H := H1
        clear H1
        replace H := Option.bind_eq_some_iff.mp H
        obtain ⟨t324, A170, H⟩ := H
        replace H : ((impl_PartDigests.f kj3 l1 l2).bind fun t327 => (impl_DiffParts.l0 kj3 t324 t327 ([] : List Int) (l2.length : Int) 0)) = some r := H
        have A17 := Aside0.mk A170
        clear A170
        replace H := Option.bind_eq_some_iff.mp H
        obtain ⟨t327, A180, H⟩ := H
        replace H : (impl_DiffParts.l0 kj3 t324 t327 ([] : List Int) (l2.length : Int) 0) = some r := H
        have A18 := Aside0.mk A180
        clear A180
        have H' := Aside0.mk H
        clear H
        go_wp2_with (first | (go_at_call 37; (with_reducible refine (impl_PartDigests.calls kj3 _ _ l0 _ _ l2 t324 _ ?side1 ?side2 ?side3 ?side4 A17.out).mono ?_); (case side1 => exact cc (Kd.C_below HR0.out HB.out)); (case side2 => exact HC0.out); (case side3 => exact cc (Kd.C_below HR2.out HB.out)); (case side4 => exact HC2.out); rintro e w19 ⟨v325, rfl, ho0, hb⟩; have n0_ := Aside0.mk (Kd.R_lower ho0 (below_size (bp HB.out))); have n1_ := an0 HB hb; clear HB; have HO326 := n0_; have HB := n1_; clear n0_ n1_; (try clear hb); (try clear hb2); (try clear hk); (try clear hi); (try clear ho0)) | (go_at_call 37; (with_reducible refine (impl_PartDigests.calls kj3 _ _ l1 _ _ l2 t327 _ ?side1 ?side2 ?side3 ?side4 A18.out).mono ?_); (case side1 => exact cc (Kd.C_below HR1.out HB.out)); (case side2 => exact HC1.out); (case side3 => exact cc (Kd.C_below HR2.out HB.out)); (case side4 => exact HC2.out); rintro e w20 ⟨v328, rfl, ho0, hb⟩; have n0_ := Aside0.mk (Kd.R_elder' (kr HO326.out) (Kd.R_base ho0) hb); have n1_ := Aside0.mk (Kd.R_lower (Kd.R_new' ho0 (Kd.R_lt (kr HO326.out))) (below_size (bp HB.out))); have n2_ := an0 HB hb; clear HO326; clear HB; have HO326 := n0_; have HO329 := n1_; have HB := n2_; clear n0_ n1_ n2_; (try clear hb); (try clear hb2); (try clear hk); (try clear hi); (try clear ho0)))
        repeat (go_quiet (first | (go_at_call 37; (with_reducible refine (impl_PartDigests.calls kj3 _ _ l0 _ _ l2 t324 _ ?side1 ?side2 ?side3 ?side4 A17.out).mono ?_); (case side1 => exact cc (Kd.C_below HR0.out HB.out)); (case side2 => exact HC0.out); (case side3 => exact cc (Kd.C_below HR2.out HB.out)); (case side4 => exact HC2.out); rintro e w19 ⟨v325, rfl, ho0, hb⟩; have n0_ := Aside0.mk (Kd.R_lower ho0 (below_size (bp HB.out))); have n1_ := an0 HB hb; clear HB; have HO326 := n0_; have HB := n1_; clear n0_ n1_; (try clear hb); (try clear hb2); (try clear hk); (try clear hi); (try clear ho0)) | (go_at_call 37; (with_reducible refine (impl_PartDigests.calls kj3 _ _ l1 _ _ l2 t327 _ ?side1 ?side2 ?side3 ?side4 A18.out).mono ?_); (case side1 => exact cc (Kd.C_below HR1.out HB.out)); (case side2 => exact HC1.out); (case side3 => exact cc (Kd.C_below HR2.out HB.out)); (case side4 => exact HC2.out); rintro e w20 ⟨v328, rfl, ho0, hb⟩; have n0_ := Aside0.mk (Kd.R_elder' (kr HO326.out) (Kd.R_base ho0) hb); have n1_ := Aside0.mk (Kd.R_lower (Kd.R_new' ho0 (Kd.R_lt (kr HO326.out))) (below_size (bp HB.out))); have n2_ := an0 HB hb; clear HO326; clear HB; have HO326 := n0_; have HO329 := n1_; have HB := n2_; clear n0_ n1_ n2_; (try clear hb); (try clear hb2); (try clear hk); (try clear hi); (try clear ho0))); try go_wp2_with (first | (go_at_call 37; (with_reducible refine (impl_PartDigests.calls kj3 _ _ l0 _ _ l2 t324 _ ?side1 ?side2 ?side3 ?side4 A17.out).mono ?_); (case side1 => exact cc (Kd.C_below HR0.out HB.out)); (case side2 => exact HC0.out); (case side3 => exact cc (Kd.C_below HR2.out HB.out)); (case side4 => exact HC2.out); rintro e w19 ⟨v325, rfl, ho0, hb⟩; have n0_ := Aside0.mk (Kd.R_lower ho0 (below_size (bp HB.out))); have n1_ := an0 HB hb; clear HB; have HO326 := n0_; have HB := n1_; clear n0_ n1_; (try clear hb); (try clear hb2); (try clear hk); (try clear hi); (try clear ho0)) | (go_at_call 37; (with_reducible refine (impl_PartDigests.calls kj3 _ _ l1 _ _ l2 t327 _ ?side1 ?side2 ?side3 ?side4 A18.out).mono ?_); (case side1 => exact cc (Kd.C_below HR1.out HB.out)); (case side2 => exact HC1.out); (case side3 => exact cc (Kd.C_below HR2.out HB.out)); (case side4 => exact HC2.out); rintro e w20 ⟨v328, rfl, ho0, hb⟩; have n0_ := Aside0.mk (Kd.R_elder' (kr HO326.out) (Kd.R_base ho0) hb); have n1_ := Aside0.mk (Kd.R_lower (Kd.R_new' ho0 (Kd.R_lt (kr HO326.out))) (below_size (bp HB.out))); have n2_ := an0 HB hb; clear HO326; clear HB; have HO326 := n0_; have HO329 := n1_; have HB := n2_; clear n0_ n1_ n2_; (try clear hb); (try clear hb2); (try clear hk); (try clear hi); (try clear ho0))))
        go_loopg [9, 32] kj3 (fun kq v9 v32 w' => ∃ (x9_2 : List Int) (x32_2 : Int), v32 = .int .i64 x32_2 ∧ Aside0 (impl_DiffParts.l0 kq t324 t327 x9_2 (l2.length : Int) x32_2 = some r) ∧ Aside0 (kq ≤ kj3) ∧ Aside0 (Kd.R (Kd.int .i64) 3 w' w.heap.size (fun k_ => some k_ ≠ (v328 : Value).ownBlock ∧ some k_ ≠ (v9 : Value).ownBlock) v325 t324) ∧ Aside0 (Kd.R (Kd.int .i64) 3 w' w.heap.size (fun k_ => some k_ ≠ (v325 : Value).ownBlock ∧ some k_ ≠ (v9 : Value).ownBlock) v328 t327) ∧ Aside0 (Kd.R (Kd.int .i64) 3 w' w.heap.size (fun k_ => some k_ ≠ (v325 : Value).ownBlock ∧ some k_ ≠ (v328 : Value).ownBlock) v9 x9_2) ∧ Aside0 (Below w.heap.size w w'))
        case atStart => exact ⟨(([] : List Int)), (0), (by first | rfl | (simp; done) | (simp [*]; done) | (simp [bne_nil_, beq_nil_]; done)), H', ⟨Nat.le_refl _⟩, ⟨by (with_reducible repeat (first | apply Kd.R_alloc | apply Kd.R_drewN | apply Kd.R_drew)); exact Kd.R_mono HO326.out (fun _ hk => ⟨hk.2, (by simp [Value.ownBlock])⟩)⟩, ⟨by (with_reducible repeat (first | apply Kd.R_alloc | apply Kd.R_drewN | apply Kd.R_drew)); exact Kd.R_mono HO329.out (fun _ hk => ⟨hk.2, (by simp [Value.ownBlock])⟩)⟩, ⟨by first | exact Kd.R_nil _ _ _ _ _ | exact Kd.N_nil _ _ _ _ _ | exact Kd.V_nil _ _ _ _ _ | exact Kd.Q_nil _ _ _ _ _ | exact Kd.S_nil _ _ _ _ _⟩, ⟨bp HB.out⟩⟩
        case round =>
          clear H'
          try clear c1
          try clear c2
          try clear p2
          try clear c4
          try clear c6
          try clear p6
          try clear c8
          try clear c16
          try clear p2
          obtain ⟨x9_2, x32_2, rfl, HA, HK2, HO_7, HO_8, HO_9, HB⟩ := hrel
          cases gk with
          | zero => exact absurd HA.out (by simp [impl_DiffParts.l0])
          | succ k2 =>
            have H := HA.out
            clear HA
            simp only [impl_DiffParts.l0] at H
            by_cases c21 : x32_2 < (l2.length : Int)
            · rw [if_pos c21] at H
              have c21b0 : decide (x32_2 < (l2.length : Int)) = true := decide_eq_true c21
              clear c21
              by_cases c22 : 0 ≤ x32_2
              · rw [if_pos c22] at H
                have c22b0 : decide (0 ≤ x32_2) = true := decide_eq_true c22
                clear c22
                by_cases c23 : x32_2 < (t324.length : Int)
                · rw [if_pos c23] at H
                  have c23b0 : decide (x32_2 < (t324.length : Int)) = true := decide_eq_true c23
                  clear c23
                  by_cases c24 : x32_2 < (t327.length : Int)
                  · rw [if_pos c24] at H
                    have c24b0 : decide (x32_2 < (t327.length : Int)) = true := decide_eq_true c24
                    clear c24
                    by_cases c25 : (rd t324 x32_2) = (rd t327 x32_2)
                    · rw [if_pos c25] at H
                      have c25b0 : ((rd t324 x32_2) == (rd t327 x32_2)) = true := beq_iff_eq.mpr c25
                      have c25b1 : ((rd t324 x32_2) != (rd t327 x32_2)) = false := bne_eq_false_iff_eq.mpr c25
                      clear c25
                      have H' := Aside0.mk H
                      clear H
                      obtain ⟨Ao26, co26, eo26⟩ := Kd.R_slice HO_7.out
                      subst eo26
                      have p330 : 0 ≤ (x32_2 : Int) := of_decide_eq_true (by first | (with_reducible assumption) | assumption)
                      have q330 : x32_2 < (t324.length : Int) := of_decide_eq_true (by first | (with_reducible assumption) | assumption)
                      obtain ⟨ad330, e330, hx330_0⟩ := Kd.at_int (Kd.R_reads' HO_7.out).2.2 x32_2 p330 q330
                      cases e330
                      replace p330 := eq_true p330
                      replace q330 := eq_true q330
                      obtain ⟨Ao27, co27, eo27⟩ := Kd.R_slice HO_8.out
                      subst eo27
                      have p331 : 0 ≤ (x32_2 : Int) := of_decide_eq_true (by first | (with_reducible assumption) | assumption)
                      have q331 : x32_2 < (t327.length : Int) := of_decide_eq_true (by first | (with_reducible assumption) | assumption)
                      obtain ⟨ad331, e331, hx331_0⟩ := Kd.at_int (Kd.R_reads' HO_8.out).2.2 x32_2 p331 q331
                      cases e331
                      replace p331 := eq_true p331
                      replace q331 := eq_true q331
                      go_wp2
                      repeat (go_quiet (fail); try go_wp2)
                      go_roundg k2
                      case measure => have := HJ3.out; have := HK2.out; omega
                      case rel => exact ⟨(x9_2), (wrap64 (x32_2 + 1)), (by first | rfl | (simp; done) | (simp [*]; done) | (simp [bne_nil_, beq_nil_]; done)), H', ⟨by have := HJ3.out; have := HK2.out; omega⟩, ⟨by (with_reducible repeat (first | apply Kd.R_alloc | apply Kd.R_drewN | apply Kd.R_drew)); exact HO_7.out⟩, ⟨by (with_reducible repeat (first | apply Kd.R_alloc | apply Kd.R_drewN | apply Kd.R_drew)); exact HO_8.out⟩, ⟨by (with_reducible repeat (first | apply Kd.R_alloc | apply Kd.R_drewN | apply Kd.R_drew)); exact HO_9.out⟩, ⟨bp HB.out⟩⟩
                    · rw [if_neg c25] at H
                      have c25b0 : ((rd t324 x32_2) == (rd t327 x32_2)) = false := beq_eq_false_iff_ne.mpr c25
                      have c25b1 : ((rd t324 x32_2) != (rd t327 x32_2)) = true := bne_iff_ne.mpr c25
                      by_cases c28 : x9_2.length < 17592186044416
                      · rw [if_pos c28] at H
                        have LMc28 := Aside0.mk c28
                        clear c28
                        obtain ⟨y332, hy332⟩ : ∃ y_ : List Int, y_ = (x9_2 ++ [x32_2]) := ⟨_, rfl⟩
                        replace H : (impl_DiffParts.l0 k2 t324 t327 y332 (l2.length : Int) (wrap64 (x32_2 + 1))) = some r := by first | (rw [hy332]; with_reducible exact H) | (have H2_ := (Option.bind_some _ _).symm.trans H; rw [hy332]; with_reducible exact H2_) | (have H2_ := (Option.bind_some _ _).symm.trans H; with_reducible exact H2_) | with_reducible exact H | (rw [hy332]; exact H) | exact H
                        have Ny332 := Aside0.mk hy332
                        clear hy332
                        have H' := Aside0.mk H
                        clear H
                        obtain ⟨Ao29, co29, eo29⟩ := Kd.R_slice HO_7.out
                        subst eo29
                        have p330 : 0 ≤ (x32_2 : Int) := of_decide_eq_true (by first | (with_reducible assumption) | assumption)
                        have q330 : x32_2 < (t324.length : Int) := of_decide_eq_true (by first | (with_reducible assumption) | assumption)
                        obtain ⟨ad330, e330, hx330_0⟩ := Kd.at_int (Kd.R_reads' HO_7.out).2.2 x32_2 p330 q330
                        cases e330
                        replace p330 := eq_true p330
                        replace q330 := eq_true q330
                        obtain ⟨Ao30, co30, eo30⟩ := Kd.R_slice HO_8.out
                        subst eo30
                        have p331 : 0 ≤ (x32_2 : Int) := of_decide_eq_true (by first | (with_reducible assumption) | assumption)
                        have q331 : x32_2 < (t327.length : Int) := of_decide_eq_true (by first | (with_reducible assumption) | assumption)
                        obtain ⟨ad331, e331, hx331_0⟩ := Kd.at_int (Kd.R_reads' HO_8.out).2.2 x32_2 p331 q331
                        cases e331
                        replace p331 := eq_true p331
                        replace q331 := eq_true q331
                        go_wp2_with (first | ((with_reducible refine gate_builtin (b := .append) (xs := #[.tmp 44, .tmp 46]) rfl ?_); at_builtin; refine Kd.R_append (Kd.int .i64) (w0 := w) w.heap.size rfl (.tmp 44) (.tmp 46) 33 3 (.int .i64 0) 8 rfl Try.underlying33 info3 rfl (by decide) (by omega) u9 x9_2 x32_2 [.int .i64 x32_2] (fun k_ => some k_ ≠ (.slice (some ad330) t324.length co29 : Value).ownBlock ∧ some k_ ≠ (.slice (some ad331) t327.length co30 : Value).ownBlock) (fun _ => False) rfl rfl ?aP (fun _ hk => hk.elim) ?aF ?aO ?aB ?aS ?aL ?_; (case aP => exact rfl); (case aB => exact (bp HB.out)); (case aF => exact (fun k_ hk => ⟨Kd.fresh' (Kd.R_lt (kr HO_7.out)) k_ hk, Kd.fresh' (Kd.R_lt (kr HO_8.out)) k_ hk⟩)); (case aO => exact (kr HO_9.out)); (case aS => exact (below_size (bp HB.out))); (case aL => have := LMc28.out; omega); intro v333 w31 ho hb hg hat; rw [← Ny332.out] at ho; have n0_ := Aside0.mk (Kd.R_after (ok := (fun k_ => some k_ ≠ (.slice (some ad331) t327.length co30 : Value).ownBlock)) (kr HO_7.out) hg hat); have n1_ := Aside0.mk (Kd.R_after (ok := (fun k_ => some k_ ≠ (.slice (some ad330) t324.length co29 : Value).ownBlock)) (kr HO_8.out) hg hat); have n2_ := Aside0.mk (hb); have n3_ := Aside0.mk (ho); clear HO_7; clear HO_8; clear HB; clear HO_9; have HO_7 := n0_; have HO_8 := n1_; have HB := n2_; have HO334 := n3_; clear n0_ n1_ n2_ n3_; clear ho hb hg hat))
                        repeat (go_quiet (first | ((with_reducible refine gate_builtin (b := .append) (xs := #[.tmp 44, .tmp 46]) rfl ?_); at_builtin; refine Kd.R_append (Kd.int .i64) (w0 := w) w.heap.size rfl (.tmp 44) (.tmp 46) 33 3 (.int .i64 0) 8 rfl Try.underlying33 info3 rfl (by decide) (by omega) u9 x9_2 x32_2 [.int .i64 x32_2] (fun k_ => some k_ ≠ (.slice (some ad330) t324.length co29 : Value).ownBlock ∧ some k_ ≠ (.slice (some ad331) t327.length co30 : Value).ownBlock) (fun _ => False) rfl rfl ?aP (fun _ hk => hk.elim) ?aF ?aO ?aB ?aS ?aL ?_; (case aP => exact rfl); (case aB => exact (bp HB.out)); (case aF => exact (fun k_ hk => ⟨Kd.fresh' (Kd.R_lt (kr HO_7.out)) k_ hk, Kd.fresh' (Kd.R_lt (kr HO_8.out)) k_ hk⟩)); (case aO => exact (kr HO_9.out)); (case aS => exact (below_size (bp HB.out))); (case aL => have := LMc28.out; omega); intro v333 w31 ho hb hg hat; rw [← Ny332.out] at ho; have n0_ := Aside0.mk (Kd.R_after (ok := (fun k_ => some k_ ≠ (.slice (some ad331) t327.length co30 : Value).ownBlock)) (kr HO_7.out) hg hat); have n1_ := Aside0.mk (Kd.R_after (ok := (fun k_ => some k_ ≠ (.slice (some ad330) t324.length co29 : Value).ownBlock)) (kr HO_8.out) hg hat); have n2_ := Aside0.mk (hb); have n3_ := Aside0.mk (ho); clear HO_7; clear HO_8; clear HB; clear HO_9; have HO_7 := n0_; have HO_8 := n1_; have HB := n2_; have HO334 := n3_; clear n0_ n1_ n2_ n3_; clear ho hb hg hat)); try go_wp2_with (first | ((with_reducible refine gate_builtin (b := .append) (xs := #[.tmp 44, .tmp 46]) rfl ?_); at_builtin; refine Kd.R_append (Kd.int .i64) (w0 := w) w.heap.size rfl (.tmp 44) (.tmp 46) 33 3 (.int .i64 0) 8 rfl Try.underlying33 info3 rfl (by decide) (by omega) u9 x9_2 x32_2 [.int .i64 x32_2] (fun k_ => some k_ ≠ (.slice (some ad330) t324.length co29 : Value).ownBlock ∧ some k_ ≠ (.slice (some ad331) t327.length co30 : Value).ownBlock) (fun _ => False) rfl rfl ?aP (fun _ hk => hk.elim) ?aF ?aO ?aB ?aS ?aL ?_; (case aP => exact rfl); (case aB => exact (bp HB.out)); (case aF => exact (fun k_ hk => ⟨Kd.fresh' (Kd.R_lt (kr HO_7.out)) k_ hk, Kd.fresh' (Kd.R_lt (kr HO_8.out)) k_ hk⟩)); (case aO => exact (kr HO_9.out)); (case aS => exact (below_size (bp HB.out))); (case aL => have := LMc28.out; omega); intro v333 w31 ho hb hg hat; rw [← Ny332.out] at ho; have n0_ := Aside0.mk (Kd.R_after (ok := (fun k_ => some k_ ≠ (.slice (some ad331) t327.length co30 : Value).ownBlock)) (kr HO_7.out) hg hat); have n1_ := Aside0.mk (Kd.R_after (ok := (fun k_ => some k_ ≠ (.slice (some ad330) t324.length co29 : Value).ownBlock)) (kr HO_8.out) hg hat); have n2_ := Aside0.mk (hb); have n3_ := Aside0.mk (ho); clear HO_7; clear HO_8; clear HB; clear HO_9; have HO_7 := n0_; have HO_8 := n1_; have HB := n2_; have HO334 := n3_; clear n0_ n1_ n2_ n3_; clear ho hb hg hat)))
                        go_roundg k2
                        case measure => have := HJ3.out; have := HK2.out; omega
                        case rel => exact ⟨(y332), (wrap64 (x32_2 + 1)), (by first | rfl | (simp; done) | (simp [*]; done) | (simp [bne_nil_, beq_nil_]; done)), H', ⟨by have := HJ3.out; have := HK2.out; omega⟩, ⟨by (with_reducible repeat (first | apply Kd.R_alloc | apply Kd.R_drewN | apply Kd.R_drew)); exact HO_7.out⟩, ⟨by (with_reducible repeat (first | apply Kd.R_alloc | apply Kd.R_drewN | apply Kd.R_drew)); exact HO_8.out⟩, ⟨by (with_reducible repeat (first | apply Kd.R_alloc | apply Kd.R_drewN | apply Kd.R_drew)); exact HO334.out⟩, ⟨bp HB.out⟩⟩
                      · rw [if_neg c28] at H
                        exact absurd H (by simp)
                  · rw [if_neg c24] at H
                    exact absurd H (by simp)
                · rw [if_neg c23] at H
                  exact absurd H (by simp)
              · rw [if_neg c22] at H
                exact absurd H (by simp)
            · rw [if_neg c21] at H
              have c21b0 : decide (x32_2 < (l2.length : Int)) = false := decide_eq_false c21
              clear c21
              obtain rfl := Option.some.inj H
              go_wp2
              repeat (go_quiet (fail); try go_wp2)
              go_ret
              exact ⟨_, fe, by (with_reducible repeat (first | apply Kd.R_alloc | apply Kd.R_drewN | apply Kd.R_drew)); exact Kd.R_mono HO_9.out (fun _ hk => trivial), bp HB.out⟩

/-! ### laws_FnExactDiffParts: function 8 -/
def laws_FnExactDiffParts.j0 : Nat → List (S104) → List (S104) → List (S121) → List Int → List Int → Bool → Option (Bool)
  | 0, _, _, _, _, _, _ => none
  | k + 1, x0, x1, x2, x8, x12, x84 => if x84 = true then (some false) else ((laws_markIntS.f k x12 1).bind fun bt382 => ((laws_heldIntS.f k bt382.2 1).bind fun t384 => (if t384 < 0 then (some false) else (if t384 = bt382.1 then ((laws_toPairS.f k x0).bind fun t385 => ((laws_toPairS.f k x1).bind fun t388 => ((laws_toIntervalS.f k x2).bind fun t391 => ((impl_DiffParts.f k t385 t388 t391).bind fun t394 => ((laws_eqIntS.f k t394 x8).bind fun t397 => (if t397 = true then ((laws_heldIntS.f k bt382.2 1).bind fun t398 => (if t398 < 0 then (some false) else (if t398 = bt382.1 then (some true) else (some false)))) else (some false))))))) else (some false)))))
def laws_FnExactDiffParts.f (k : Nat) (l0 : List (S104)) (l1 : List (S104)) (l2 : List (S121)) : Option (Bool) := (laws_szPairS.f k l0 1048576).bind fun t335 => (if t335 < 0 then (some true) else ((laws_szPairS.f k l1 t335).bind fun t336 => (if t336 < 0 then (some true) else ((laws_szIntervalS.f k l2 t336).bind fun t337 => (if t337 < 0 then (some true) else ((laws_toPairS.f k l0).bind fun t338 => ((laws_toPairS.f k l1).bind fun t341 => ((laws_toIntervalS.f k l2).bind fun t344 => ((spec_DiffParts.f k t338 t341 t344).bind fun t347 => ((laws_toPairS.f k l0).bind fun t350 => ((laws_toPairS.f k l1).bind fun t353 => ((laws_toIntervalS.f k l2).bind fun t356 => ((impl_DiffParts.f k t350 t353 t356).bind fun t359 => ((laws_eqIntS.f k t359 t347).bind fun t362 => (if t362 = true then ((laws_toPairS.f k l0).bind fun t363 => ((laws_eqPairS.f k t350 t363).bind fun t366 => (if t366 = true then ((laws_toPairS.f k l1).bind fun t367 => ((laws_eqPairS.f k t353 t367).bind fun t370 => (if t370 = true then ((laws_toIntervalS.f k l2).bind fun t371 => ((laws_eqIntervalS.f k t356 t371).bind fun t374 => (if t374 = true then ((laws_markPairS.f k t350 1).bind fun bt375 => ((laws_markPairS.f k t353 bt375.1).bind fun bt377 => ((laws_markIntervalS.f k t356 bt377.1).bind fun bt379 => (if bt379.1 < 0 then (laws_FnExactDiffParts.j0 k l0 l1 l2 t347 t359 true) else ((laws_eqIntS.f k t359 t347).bind fun t381 => (laws_FnExactDiffParts.j0 k l0 l1 l2 t347 t359 (!t381))))))) else (some false)))) else (some false)))) else (some false)))) else (some false))))))))))))))))
theorem laws_FnExactDiffParts.mono_l : ∀ k, (∀ y0 y1 y2 y3 y4 y5, LeO (laws_FnExactDiffParts.j0 k y0 y1 y2 y3 y4 y5) (laws_FnExactDiffParts.j0 (k + 1) y0 y1 y2 y3 y4 y5))
  | 0 => fun _ _ _ _ _ _ r h => by simp [laws_FnExactDiffParts.j0] at h
  | k + 1 => by
    have ih0 := laws_FnExactDiffParts.mono_l k
    · intro y0 y1 y2 y3 y4 y5
      unfold laws_FnExactDiffParts.j0
      repeat' first
      | (with_reducible exact ih0 _ _ _ _ _ _)
      | (with_reducible exact impl_DiffParts.mono _ _ _ _)
      | (with_reducible exact laws_eqIntS.mono _ _ _)
      | (with_reducible exact laws_eqIntervalS.mono _ _ _)
      | (with_reducible exact laws_eqPairS.mono _ _ _)
      | (with_reducible exact laws_heldIntS.mono _ _ _)
      | (with_reducible exact laws_markIntS.mono _ _ _)
      | (with_reducible exact laws_markIntervalS.mono _ _ _)
      | (with_reducible exact laws_markPairS.mono _ _ _)
      | (with_reducible exact laws_szIntervalS.mono _ _ _)
      | (with_reducible exact laws_szPairS.mono _ _ _)
      | (with_reducible exact laws_toIntervalS.mono _ _)
      | (with_reducible exact laws_toPairS.mono _ _)
      | (with_reducible exact spec_DiffParts.mono _ _ _ _)
      | (with_reducible exact LeO.refl _)
      | (with_reducible exact LeO.none _)
      | (with_reducible refine LeO.ite ?_ ?_)
      | (with_reducible refine LeO.bind ?_ (fun _ => ?_))
      | exact ih0 _ _ _ _ _ _
      | exact impl_DiffParts.mono _ _ _ _
      | exact laws_eqIntS.mono _ _ _
      | exact laws_eqIntervalS.mono _ _ _
      | exact laws_eqPairS.mono _ _ _
      | exact laws_heldIntS.mono _ _ _
      | exact laws_markIntS.mono _ _ _
      | exact laws_markIntervalS.mono _ _ _
      | exact laws_markPairS.mono _ _ _
      | exact laws_szIntervalS.mono _ _ _
      | exact laws_szPairS.mono _ _ _
      | exact laws_toIntervalS.mono _ _
      | exact laws_toPairS.mono _ _
      | exact spec_DiffParts.mono _ _ _ _
      | exact LeO.none _
      | refine LeO.ite ?_ ?_
      | refine LeO.bind ?_ (fun _ => ?_)
theorem laws_FnExactDiffParts.mono : ∀ a0 a1 a2 k, LeO (laws_FnExactDiffParts.f k a0 a1 a2) (laws_FnExactDiffParts.f (k + 1) a0 a1 a2) := by
  intro a0 a1 a2 k
  have ih0 := laws_FnExactDiffParts.mono_l k
  unfold laws_FnExactDiffParts.f
  repeat' first
      | (with_reducible exact ih0 _ _ _ _ _ _)
      | (with_reducible exact impl_DiffParts.mono _ _ _ _)
      | (with_reducible exact laws_eqIntS.mono _ _ _)
      | (with_reducible exact laws_eqIntervalS.mono _ _ _)
      | (with_reducible exact laws_eqPairS.mono _ _ _)
      | (with_reducible exact laws_heldIntS.mono _ _ _)
      | (with_reducible exact laws_markIntS.mono _ _ _)
      | (with_reducible exact laws_markIntervalS.mono _ _ _)
      | (with_reducible exact laws_markPairS.mono _ _ _)
      | (with_reducible exact laws_szIntervalS.mono _ _ _)
      | (with_reducible exact laws_szPairS.mono _ _ _)
      | (with_reducible exact laws_toIntervalS.mono _ _)
      | (with_reducible exact laws_toPairS.mono _ _)
      | (with_reducible exact spec_DiffParts.mono _ _ _ _)
      | (with_reducible exact LeO.refl _)
      | (with_reducible exact LeO.none _)
      | (with_reducible refine LeO.ite ?_ ?_)
      | (with_reducible refine LeO.bind ?_ (fun _ => ?_))
      | exact ih0 _ _ _ _ _ _
      | exact impl_DiffParts.mono _ _ _ _
      | exact laws_eqIntS.mono _ _ _
      | exact laws_eqIntervalS.mono _ _ _
      | exact laws_eqPairS.mono _ _ _
      | exact laws_heldIntS.mono _ _ _
      | exact laws_markIntS.mono _ _ _
      | exact laws_markIntervalS.mono _ _ _
      | exact laws_markPairS.mono _ _ _
      | exact laws_szIntervalS.mono _ _ _
      | exact laws_szPairS.mono _ _ _
      | exact laws_toIntervalS.mono _ _
      | exact laws_toPairS.mono _ _
      | exact spec_DiffParts.mono _ _ _ _
      | exact LeO.none _
      | refine LeO.ite ?_ ?_
      | refine LeO.bind ?_ (fun _ => ?_)
theorem laws_FnExactDiffParts.s0 {P0 Q : Prop} (B0 : P0) (h : P0 → Q := by (intro b0_; repeat (first | exact (Kd.R_reads' b0_).2.2 | (with_reducible refine Kd.C_alloc ?_ _) | (with_reducible refine Kd.C_drewN ?_ _) | (with_reducible refine Kd.C_drew ?_)))) : Q := h B0
theorem laws_FnExactDiffParts.s1 {P0 Q : Prop} (B0 : P0) (h : P0 → Q := by (intro b0_; repeat (first | (with_reducible first | exact b0_ | apply below_alloc | apply pw_below_drewN | apply below_drew1) | exact b0_))) : Q := h B0
set_option maxHeartbeats 8000000 in
set_option maxRecDepth 100000 in
theorem laws_FnExactDiffParts.calls (k : Nat) (A0 : Option Addr) (c0 : Nat) (l0 : List (S104)) (A1 : Option Addr) (c1 : Nat) (l1 : List (S104)) (A2 : Option Addr) (c2 : Nat) (l2 : List (S121)) (r : Bool) (w : World) (hr0 : Kd.C k104 w A0 l0.length l0) (hc0 : l0.length ≤ c0) (hr1 : Kd.C k104 w A1 l1.length l1) (hc1 : l1.length ≤ c1) (hr2 : Kd.C k121 w A2 l2.length l2) (hc2 : l2.length ≤ c2) (h : laws_FnExactDiffParts.f k l0 l1 l2 = some r) (hrt : Aside0 (r = true)) :
    Calls Try.prog 8 #[.slice A0 l0.length c0, .slice A1 l1.length c1, .slice A2 l2.length c2] w fun e w' => e = .returned (.bool r) ∧ Below w.heap.size w w' := by
  have HR0 := Aside0.mk hr0
  have HC0 := Aside0.mk hc0
  clear hr0 hc0
  have HR1 := Aside0.mk hr1
  have HC1 := Aside0.mk hc1
  clear hr1 hc1
  have HR2 := Aside0.mk hr2
  have HC2 := Aside0.mk hc2
  clear hr2 hc2
  have HB := Aside0.mk (Below.refl w.heap.size w)
  have H : ((laws_szPairS.f k l0 1048576).bind fun t335 => (if t335 < 0 then (some true) else ((laws_szPairS.f k l1 t335).bind fun t336 => (if t336 < 0 then (some true) else ((laws_szIntervalS.f k l2 t336).bind fun t337 => (if t337 < 0 then (some true) else ((laws_toPairS.f k l0).bind fun t338 => ((laws_toPairS.f k l1).bind fun t341 => ((laws_toIntervalS.f k l2).bind fun t344 => ((spec_DiffParts.f k t338 t341 t344).bind fun t347 => ((laws_toPairS.f k l0).bind fun t350 => ((laws_toPairS.f k l1).bind fun t353 => ((laws_toIntervalS.f k l2).bind fun t356 => ((impl_DiffParts.f k t350 t353 t356).bind fun t359 => ((laws_eqIntS.f k t359 t347).bind fun t362 => (if t362 = true then ((laws_toPairS.f k l0).bind fun t363 => ((laws_eqPairS.f k t350 t363).bind fun t366 => (if t366 = true then ((laws_toPairS.f k l1).bind fun t367 => ((laws_eqPairS.f k t353 t367).bind fun t370 => (if t370 = true then ((laws_toIntervalS.f k l2).bind fun t371 => ((laws_eqIntervalS.f k t356 t371).bind fun t374 => (if t374 = true then ((laws_markPairS.f k t350 1).bind fun bt375 => ((laws_markPairS.f k t353 bt375.1).bind fun bt377 => ((laws_markIntervalS.f k t356 bt377.1).bind fun bt379 => (if bt379.1 < 0 then (laws_FnExactDiffParts.j0 k l0 l1 l2 t347 t359 true) else ((laws_eqIntS.f k t359 t347).bind fun t381 => (laws_FnExactDiffParts.j0 k l0 l1 l2 t347 t359 (!t381))))))) else (some false)))) else (some false)))) else (some false)))) else (some false))))))))))))))))) = some r := h
  clear h
  replace H := Option.bind_eq_some_iff.mp H
  obtain ⟨t335, A40, H⟩ := H
  replace H : (if t335 < 0 then (some true) else ((laws_szPairS.f k l1 t335).bind fun t336 => (if t336 < 0 then (some true) else ((laws_szIntervalS.f k l2 t336).bind fun t337 => (if t337 < 0 then (some true) else ((laws_toPairS.f k l0).bind fun t338 => ((laws_toPairS.f k l1).bind fun t341 => ((laws_toIntervalS.f k l2).bind fun t344 => ((spec_DiffParts.f k t338 t341 t344).bind fun t347 => ((laws_toPairS.f k l0).bind fun t350 => ((laws_toPairS.f k l1).bind fun t353 => ((laws_toIntervalS.f k l2).bind fun t356 => ((impl_DiffParts.f k t350 t353 t356).bind fun t359 => ((laws_eqIntS.f k t359 t347).bind fun t362 => (if t362 = true then ((laws_toPairS.f k l0).bind fun t363 => ((laws_eqPairS.f k t350 t363).bind fun t366 => (if t366 = true then ((laws_toPairS.f k l1).bind fun t367 => ((laws_eqPairS.f k t353 t367).bind fun t370 => (if t370 = true then ((laws_toIntervalS.f k l2).bind fun t371 => ((laws_eqIntervalS.f k t356 t371).bind fun t374 => (if t374 = true then ((laws_markPairS.f k t350 1).bind fun bt375 => ((laws_markPairS.f k t353 bt375.1).bind fun bt377 => ((laws_markIntervalS.f k t356 bt377.1).bind fun bt379 => (if bt379.1 < 0 then (laws_FnExactDiffParts.j0 k l0 l1 l2 t347 t359 true) else ((laws_eqIntS.f k t359 t347).bind fun t381 => (laws_FnExactDiffParts.j0 k l0 l1 l2 t347 t359 (!t381))))))) else (some false)))) else (some false)))) else (some false)))) else (some false)))))))))))))))) = some r := H
  have A4 := Aside0.mk A40
  clear A40
  by_cases c5 : t335 < 0
  · rw [if_pos c5] at H
    have c5b0 : decide (t335 < 0) = true := decide_eq_true c5
    clear c5
    obtain rfl := Option.some.inj H
    go_enter Try.func8, Try.ntmps8
    go_wp2_with (first | ((with_reducible refine gate_callee (f := 25) rfl ?_); refine gsl (some 19) rfl Try.func25 #[.slice A0 l0.length c0, .int .i64 1048576] rfl ?_; (with_reducible refine (laws_szPairS.calls k _ _ l0 1048576 t335 _ ?side1 ?side2 A4.out).mono ?_); (case side1 => exact cc HR0.out); (case side2 => exact HC0.out); rintro e w6 ⟨rfl, hb⟩; refine ⟨_, rfl, ?_⟩; replace HB := an0 HB hb; (try clear hb); (try clear hb2); (try clear hk); (try clear hi)))
    go_ret
    exact ⟨fe, bp HB.out⟩
  · rw [if_neg c5] at H
    have c5b0 : decide (t335 < 0) = false := decide_eq_false c5
    clear c5
    replace H := Option.bind_eq_some_iff.mp H
    obtain ⟨t336, A70, H⟩ := H
    replace H : (if t336 < 0 then (some true) else ((laws_szIntervalS.f k l2 t336).bind fun t337 => (if t337 < 0 then (some true) else ((laws_toPairS.f k l0).bind fun t338 => ((laws_toPairS.f k l1).bind fun t341 => ((laws_toIntervalS.f k l2).bind fun t344 => ((spec_DiffParts.f k t338 t341 t344).bind fun t347 => ((laws_toPairS.f k l0).bind fun t350 => ((laws_toPairS.f k l1).bind fun t353 => ((laws_toIntervalS.f k l2).bind fun t356 => ((impl_DiffParts.f k t350 t353 t356).bind fun t359 => ((laws_eqIntS.f k t359 t347).bind fun t362 => (if t362 = true then ((laws_toPairS.f k l0).bind fun t363 => ((laws_eqPairS.f k t350 t363).bind fun t366 => (if t366 = true then ((laws_toPairS.f k l1).bind fun t367 => ((laws_eqPairS.f k t353 t367).bind fun t370 => (if t370 = true then ((laws_toIntervalS.f k l2).bind fun t371 => ((laws_eqIntervalS.f k t356 t371).bind fun t374 => (if t374 = true then ((laws_markPairS.f k t350 1).bind fun bt375 => ((laws_markPairS.f k t353 bt375.1).bind fun bt377 => ((laws_markIntervalS.f k t356 bt377.1).bind fun bt379 => (if bt379.1 < 0 then (laws_FnExactDiffParts.j0 k l0 l1 l2 t347 t359 true) else ((laws_eqIntS.f k t359 t347).bind fun t381 => (laws_FnExactDiffParts.j0 k l0 l1 l2 t347 t359 (!t381))))))) else (some false)))) else (some false)))) else (some false)))) else (some false)))))))))))))) = some r := H
    have A7 := Aside0.mk A70
    clear A70
    by_cases c8 : t336 < 0
    · rw [if_pos c8] at H
      have c8b0 : decide (t336 < 0) = true := decide_eq_true c8
      clear c8
      obtain rfl := Option.some.inj H
      go_enter Try.func8, Try.ntmps8
      go_wp2_with (first | ((with_reducible refine gate_callee (f := 25) rfl ?_); refine gsl (some 19) rfl Try.func25 #[.slice A0 l0.length c0, .int .i64 1048576] rfl ?_; (with_reducible refine (laws_szPairS.calls k _ _ l0 1048576 t335 _ ?side1 ?side2 A4.out).mono ?_); (case side1 => exact cc HR0.out); (case side2 => exact HC0.out); rintro e w9 ⟨rfl, hb⟩; refine ⟨_, rfl, ?_⟩; replace HB := an0 HB hb; (try clear hb); (try clear hb2); (try clear hk); (try clear hi)) | ((with_reducible refine gate_callee (f := 25) rfl ?_); refine gsl (some 24) rfl Try.func25 #[.slice A1 l1.length c1, .int .i64 t335] rfl ?_; (with_reducible refine (laws_szPairS.calls k _ _ l1 t335 t336 _ ?side1 ?side2 A7.out).mono ?_); (case side1 => exact cc (Kd.C_below HR1.out HB.out)); (case side2 => exact HC1.out); rintro e w10 ⟨rfl, hb⟩; refine ⟨_, rfl, ?_⟩; replace HB := an0 HB hb; (try clear hb); (try clear hb2); (try clear hk); (try clear hi)))
      go_ret
      exact ⟨fe, bp HB.out⟩
    · rw [if_neg c8] at H
      have c8b0 : decide (t336 < 0) = false := decide_eq_false c8
      clear c8
      replace H := Option.bind_eq_some_iff.mp H
      obtain ⟨t337, A110, H⟩ := H
      replace H : (if t337 < 0 then (some true) else ((laws_toPairS.f k l0).bind fun t338 => ((laws_toPairS.f k l1).bind fun t341 => ((laws_toIntervalS.f k l2).bind fun t344 => ((spec_DiffParts.f k t338 t341 t344).bind fun t347 => ((laws_toPairS.f k l0).bind fun t350 => ((laws_toPairS.f k l1).bind fun t353 => ((laws_toIntervalS.f k l2).bind fun t356 => ((impl_DiffParts.f k t350 t353 t356).bind fun t359 => ((laws_eqIntS.f k t359 t347).bind fun t362 => (if t362 = true then ((laws_toPairS.f k l0).bind fun t363 => ((laws_eqPairS.f k t350 t363).bind fun t366 => (if t366 = true then ((laws_toPairS.f k l1).bind fun t367 => ((laws_eqPairS.f k t353 t367).bind fun t370 => (if t370 = true then ((laws_toIntervalS.f k l2).bind fun t371 => ((laws_eqIntervalS.f k t356 t371).bind fun t374 => (if t374 = true then ((laws_markPairS.f k t350 1).bind fun bt375 => ((laws_markPairS.f k t353 bt375.1).bind fun bt377 => ((laws_markIntervalS.f k t356 bt377.1).bind fun bt379 => (if bt379.1 < 0 then (laws_FnExactDiffParts.j0 k l0 l1 l2 t347 t359 true) else ((laws_eqIntS.f k t359 t347).bind fun t381 => (laws_FnExactDiffParts.j0 k l0 l1 l2 t347 t359 (!t381))))))) else (some false)))) else (some false)))) else (some false)))) else (some false)))))))))))) = some r := H
      have A11 := Aside0.mk A110
      clear A110
      by_cases c12 : t337 < 0
      · rw [if_pos c12] at H
        have c12b0 : decide (t337 < 0) = true := decide_eq_true c12
        clear c12
        obtain rfl := Option.some.inj H
        go_enter Try.func8, Try.ntmps8
        go_wp2_with (first | ((with_reducible refine gate_callee (f := 25) rfl ?_); refine gsl (some 19) rfl Try.func25 #[.slice A0 l0.length c0, .int .i64 1048576] rfl ?_; (with_reducible refine (laws_szPairS.calls k _ _ l0 1048576 t335 _ ?side1 ?side2 A4.out).mono ?_); (case side1 => exact cc HR0.out); (case side2 => exact HC0.out); rintro e w13 ⟨rfl, hb⟩; refine ⟨_, rfl, ?_⟩; replace HB := an0 HB hb; (try clear hb); (try clear hb2); (try clear hk); (try clear hi)) | ((with_reducible refine gate_callee (f := 25) rfl ?_); refine gsl (some 24) rfl Try.func25 #[.slice A1 l1.length c1, .int .i64 t335] rfl ?_; (with_reducible refine (laws_szPairS.calls k _ _ l1 t335 t336 _ ?side1 ?side2 A7.out).mono ?_); (case side1 => exact cc (Kd.C_below HR1.out HB.out)); (case side2 => exact HC1.out); rintro e w14 ⟨rfl, hb⟩; refine ⟨_, rfl, ?_⟩; replace HB := an0 HB hb; (try clear hb); (try clear hb2); (try clear hk); (try clear hi)) | ((with_reducible refine gate_callee (f := 41) rfl ?_); refine gsl (some 29) rfl Try.func41 #[.slice A2 l2.length c2, .int .i64 t336] rfl ?_; (with_reducible refine (laws_szIntervalS.calls k _ _ l2 t336 t337 _ ?side1 ?side2 A11.out).mono ?_); (case side1 => exact cc (Kd.C_below HR2.out HB.out)); (case side2 => exact HC2.out); rintro e w15 ⟨rfl, hb⟩; refine ⟨_, rfl, ?_⟩; replace HB := an0 HB hb; (try clear hb); (try clear hb2); (try clear hk); (try clear hi)))
        go_ret
        exact ⟨fe, bp HB.out⟩
      · rw [if_neg c12] at H
        have c12b0 : decide (t337 < 0) = false := decide_eq_false c12
        clear c12
        replace H := Option.bind_eq_some_iff.mp H
        obtain ⟨t338, A160, H⟩ := H
        replace H : ((laws_toPairS.f k l1).bind fun t341 => ((laws_toIntervalS.f k l2).bind fun t344 => ((spec_DiffParts.f k t338 t341 t344).bind fun t347 => ((laws_toPairS.f k l0).bind fun t350 => ((laws_toPairS.f k l1).bind fun t353 => ((laws_toIntervalS.f k l2).bind fun t356 => ((impl_DiffParts.f k t350 t353 t356).bind fun t359 => ((laws_eqIntS.f k t359 t347).bind fun t362 => (if t362 = true then ((laws_toPairS.f k l0).bind fun t363 => ((laws_eqPairS.f k t350 t363).bind fun t366 => (if t366 = true then ((laws_toPairS.f k l1).bind fun t367 => ((laws_eqPairS.f k t353 t367).bind fun t370 => (if t370 = true then ((laws_toIntervalS.f k l2).bind fun t371 => ((laws_eqIntervalS.f k t356 t371).bind fun t374 => (if t374 = true then ((laws_markPairS.f k t350 1).bind fun bt375 => ((laws_markPairS.f k t353 bt375.1).bind fun bt377 => ((laws_markIntervalS.f k t356 bt377.1).bind fun bt379 => (if bt379.1 < 0 then (laws_FnExactDiffParts.j0 k l0 l1 l2 t347 t359 true) else ((laws_eqIntS.f k t359 t347).bind fun t381 => (laws_FnExactDiffParts.j0 k l0 l1 l2 t347 t359 (!t381))))))) else (some false)))) else (some false)))) else (some false)))) else (some false)))))))))) = some r := H
        have A16 := Aside0.mk A160
        clear A160
        replace H := Option.bind_eq_some_iff.mp H
        obtain ⟨t341, A170, H⟩ := H
        replace H : ((laws_toIntervalS.f k l2).bind fun t344 => ((spec_DiffParts.f k t338 t341 t344).bind fun t347 => ((laws_toPairS.f k l0).bind fun t350 => ((laws_toPairS.f k l1).bind fun t353 => ((laws_toIntervalS.f k l2).bind fun t356 => ((impl_DiffParts.f k t350 t353 t356).bind fun t359 => ((laws_eqIntS.f k t359 t347).bind fun t362 => (if t362 = true then ((laws_toPairS.f k l0).bind fun t363 => ((laws_eqPairS.f k t350 t363).bind fun t366 => (if t366 = true then ((laws_toPairS.f k l1).bind fun t367 => ((laws_eqPairS.f k t353 t367).bind fun t370 => (if t370 = true then ((laws_toIntervalS.f k l2).bind fun t371 => ((laws_eqIntervalS.f k t356 t371).bind fun t374 => (if t374 = true then ((laws_markPairS.f k t350 1).bind fun bt375 => ((laws_markPairS.f k t353 bt375.1).bind fun bt377 => ((laws_markIntervalS.f k t356 bt377.1).bind fun bt379 => (if bt379.1 < 0 then (laws_FnExactDiffParts.j0 k l0 l1 l2 t347 t359 true) else ((laws_eqIntS.f k t359 t347).bind fun t381 => (laws_FnExactDiffParts.j0 k l0 l1 l2 t347 t359 (!t381))))))) else (some false)))) else (some false)))) else (some false)))) else (some false))))))))) = some r := H
        have A17 := Aside0.mk A170
        clear A170
        replace H := Option.bind_eq_some_iff.mp H
        obtain ⟨t344, A180, H⟩ := H
        replace H : ((spec_DiffParts.f k t338 t341 t344).bind fun t347 => ((laws_toPairS.f k l0).bind fun t350 => ((laws_toPairS.f k l1).bind fun t353 => ((laws_toIntervalS.f k l2).bind fun t356 => ((impl_DiffParts.f k t350 t353 t356).bind fun t359 => ((laws_eqIntS.f k t359 t347).bind fun t362 => (if t362 = true then ((laws_toPairS.f k l0).bind fun t363 => ((laws_eqPairS.f k t350 t363).bind fun t366 => (if t366 = true then ((laws_toPairS.f k l1).bind fun t367 => ((laws_eqPairS.f k t353 t367).bind fun t370 => (if t370 = true then ((laws_toIntervalS.f k l2).bind fun t371 => ((laws_eqIntervalS.f k t356 t371).bind fun t374 => (if t374 = true then ((laws_markPairS.f k t350 1).bind fun bt375 => ((laws_markPairS.f k t353 bt375.1).bind fun bt377 => ((laws_markIntervalS.f k t356 bt377.1).bind fun bt379 => (if bt379.1 < 0 then (laws_FnExactDiffParts.j0 k l0 l1 l2 t347 t359 true) else ((laws_eqIntS.f k t359 t347).bind fun t381 => (laws_FnExactDiffParts.j0 k l0 l1 l2 t347 t359 (!t381))))))) else (some false)))) else (some false)))) else (some false)))) else (some false)))))))) = some r := H
        have A18 := Aside0.mk A180
        clear A180
        replace H := Option.bind_eq_some_iff.mp H
        obtain ⟨t347, A190, H⟩ := H
        replace H : ((laws_toPairS.f k l0).bind fun t350 => ((laws_toPairS.f k l1).bind fun t353 => ((laws_toIntervalS.f k l2).bind fun t356 => ((impl_DiffParts.f k t350 t353 t356).bind fun t359 => ((laws_eqIntS.f k t359 t347).bind fun t362 => (if t362 = true then ((laws_toPairS.f k l0).bind fun t363 => ((laws_eqPairS.f k t350 t363).bind fun t366 => (if t366 = true then ((laws_toPairS.f k l1).bind fun t367 => ((laws_eqPairS.f k t353 t367).bind fun t370 => (if t370 = true then ((laws_toIntervalS.f k l2).bind fun t371 => ((laws_eqIntervalS.f k t356 t371).bind fun t374 => (if t374 = true then ((laws_markPairS.f k t350 1).bind fun bt375 => ((laws_markPairS.f k t353 bt375.1).bind fun bt377 => ((laws_markIntervalS.f k t356 bt377.1).bind fun bt379 => (if bt379.1 < 0 then (laws_FnExactDiffParts.j0 k l0 l1 l2 t347 t359 true) else ((laws_eqIntS.f k t359 t347).bind fun t381 => (laws_FnExactDiffParts.j0 k l0 l1 l2 t347 t359 (!t381))))))) else (some false)))) else (some false)))) else (some false)))) else (some false))))))) = some r := H
        have A19 := Aside0.mk A190
        clear A190
        replace H := Option.bind_eq_some_iff.mp H
        obtain ⟨t350, A200, H⟩ := H
        replace H : ((laws_toPairS.f k l1).bind fun t353 => ((laws_toIntervalS.f k l2).bind fun t356 => ((impl_DiffParts.f k t350 t353 t356).bind fun t359 => ((laws_eqIntS.f k t359 t347).bind fun t362 => (if t362 = true then ((laws_toPairS.f k l0).bind fun t363 => ((laws_eqPairS.f k t350 t363).bind fun t366 => (if t366 = true then ((laws_toPairS.f k l1).bind fun t367 => ((laws_eqPairS.f k t353 t367).bind fun t370 => (if t370 = true then ((laws_toIntervalS.f k l2).bind fun t371 => ((laws_eqIntervalS.f k t356 t371).bind fun t374 => (if t374 = true then ((laws_markPairS.f k t350 1).bind fun bt375 => ((laws_markPairS.f k t353 bt375.1).bind fun bt377 => ((laws_markIntervalS.f k t356 bt377.1).bind fun bt379 => (if bt379.1 < 0 then (laws_FnExactDiffParts.j0 k l0 l1 l2 t347 t359 true) else ((laws_eqIntS.f k t359 t347).bind fun t381 => (laws_FnExactDiffParts.j0 k l0 l1 l2 t347 t359 (!t381))))))) else (some false)))) else (some false)))) else (some false)))) else (some false)))))) = some r := H
        have A20 := Aside0.mk A200
        clear A200
        replace H := Option.bind_eq_some_iff.mp H
        obtain ⟨t353, A210, H⟩ := H
        replace H : ((laws_toIntervalS.f k l2).bind fun t356 => ((impl_DiffParts.f k t350 t353 t356).bind fun t359 => ((laws_eqIntS.f k t359 t347).bind fun t362 => (if t362 = true then ((laws_toPairS.f k l0).bind fun t363 => ((laws_eqPairS.f k t350 t363).bind fun t366 => (if t366 = true then ((laws_toPairS.f k l1).bind fun t367 => ((laws_eqPairS.f k t353 t367).bind fun t370 => (if t370 = true then ((laws_toIntervalS.f k l2).bind fun t371 => ((laws_eqIntervalS.f k t356 t371).bind fun t374 => (if t374 = true then ((laws_markPairS.f k t350 1).bind fun bt375 => ((laws_markPairS.f k t353 bt375.1).bind fun bt377 => ((laws_markIntervalS.f k t356 bt377.1).bind fun bt379 => (if bt379.1 < 0 then (laws_FnExactDiffParts.j0 k l0 l1 l2 t347 t359 true) else ((laws_eqIntS.f k t359 t347).bind fun t381 => (laws_FnExactDiffParts.j0 k l0 l1 l2 t347 t359 (!t381))))))) else (some false)))) else (some false)))) else (some false)))) else (some false))))) = some r := H
        have A21 := Aside0.mk A210
        clear A210
        replace H := Option.bind_eq_some_iff.mp H
        obtain ⟨t356, A220, H⟩ := H
        replace H : ((impl_DiffParts.f k t350 t353 t356).bind fun t359 => ((laws_eqIntS.f k t359 t347).bind fun t362 => (if t362 = true then ((laws_toPairS.f k l0).bind fun t363 => ((laws_eqPairS.f k t350 t363).bind fun t366 => (if t366 = true then ((laws_toPairS.f k l1).bind fun t367 => ((laws_eqPairS.f k t353 t367).bind fun t370 => (if t370 = true then ((laws_toIntervalS.f k l2).bind fun t371 => ((laws_eqIntervalS.f k t356 t371).bind fun t374 => (if t374 = true then ((laws_markPairS.f k t350 1).bind fun bt375 => ((laws_markPairS.f k t353 bt375.1).bind fun bt377 => ((laws_markIntervalS.f k t356 bt377.1).bind fun bt379 => (if bt379.1 < 0 then (laws_FnExactDiffParts.j0 k l0 l1 l2 t347 t359 true) else ((laws_eqIntS.f k t359 t347).bind fun t381 => (laws_FnExactDiffParts.j0 k l0 l1 l2 t347 t359 (!t381))))))) else (some false)))) else (some false)))) else (some false)))) else (some false)))) = some r := H
        have A22 := Aside0.mk A220
        clear A220
        replace H := Option.bind_eq_some_iff.mp H
        obtain ⟨t359, A230, H⟩ := H
        replace H : ((laws_eqIntS.f k t359 t347).bind fun t362 => (if t362 = true then ((laws_toPairS.f k l0).bind fun t363 => ((laws_eqPairS.f k t350 t363).bind fun t366 => (if t366 = true then ((laws_toPairS.f k l1).bind fun t367 => ((laws_eqPairS.f k t353 t367).bind fun t370 => (if t370 = true then ((laws_toIntervalS.f k l2).bind fun t371 => ((laws_eqIntervalS.f k t356 t371).bind fun t374 => (if t374 = true then ((laws_markPairS.f k t350 1).bind fun bt375 => ((laws_markPairS.f k t353 bt375.1).bind fun bt377 => ((laws_markIntervalS.f k t356 bt377.1).bind fun bt379 => (if bt379.1 < 0 then (laws_FnExactDiffParts.j0 k l0 l1 l2 t347 t359 true) else ((laws_eqIntS.f k t359 t347).bind fun t381 => (laws_FnExactDiffParts.j0 k l0 l1 l2 t347 t359 (!t381))))))) else (some false)))) else (some false)))) else (some false)))) else (some false))) = some r := H
        have A23 := Aside0.mk A230
        clear A230
        replace H := Option.bind_eq_some_iff.mp H
        obtain ⟨t362, A240, H⟩ := H
        replace H : (if t362 = true then ((laws_toPairS.f k l0).bind fun t363 => ((laws_eqPairS.f k t350 t363).bind fun t366 => (if t366 = true then ((laws_toPairS.f k l1).bind fun t367 => ((laws_eqPairS.f k t353 t367).bind fun t370 => (if t370 = true then ((laws_toIntervalS.f k l2).bind fun t371 => ((laws_eqIntervalS.f k t356 t371).bind fun t374 => (if t374 = true then ((laws_markPairS.f k t350 1).bind fun bt375 => ((laws_markPairS.f k t353 bt375.1).bind fun bt377 => ((laws_markIntervalS.f k t356 bt377.1).bind fun bt379 => (if bt379.1 < 0 then (laws_FnExactDiffParts.j0 k l0 l1 l2 t347 t359 true) else ((laws_eqIntS.f k t359 t347).bind fun t381 => (laws_FnExactDiffParts.j0 k l0 l1 l2 t347 t359 (!t381))))))) else (some false)))) else (some false)))) else (some false)))) else (some false)) = some r := H
        have A24 := Aside0.mk A240
        clear A240
        by_cases c25 : t362 = true
        · subst c25
          have H1 : ((laws_toPairS.f k l0).bind fun t363 => ((laws_eqPairS.f k t350 t363).bind fun t366 => (if t366 = true then ((laws_toPairS.f k l1).bind fun t367 => ((laws_eqPairS.f k t353 t367).bind fun t370 => (if t370 = true then ((laws_toIntervalS.f k l2).bind fun t371 => ((laws_eqIntervalS.f k t356 t371).bind fun t374 => (if t374 = true then ((laws_markPairS.f k t350 1).bind fun bt375 => ((laws_markPairS.f k t353 bt375.1).bind fun bt377 => ((laws_markIntervalS.f k t356 bt377.1).bind fun bt379 => (if bt379.1 < 0 then (laws_FnExactDiffParts.j0 k l0 l1 l2 t347 t359 true) else ((laws_eqIntS.f k t359 t347).bind fun t381 => (laws_FnExactDiffParts.j0 k l0 l1 l2 t347 t359 (!t381))))))) else (some false)))) else (some false)))) else (some false)))) = some r := by rw [if_pos rfl] at H; exact H
          clear H
          have H := H1
          clear H1
          replace H := Option.bind_eq_some_iff.mp H
          obtain ⟨t363, A260, H⟩ := H
          replace H : ((laws_eqPairS.f k t350 t363).bind fun t366 => (if t366 = true then ((laws_toPairS.f k l1).bind fun t367 => ((laws_eqPairS.f k t353 t367).bind fun t370 => (if t370 = true then ((laws_toIntervalS.f k l2).bind fun t371 => ((laws_eqIntervalS.f k t356 t371).bind fun t374 => (if t374 = true then ((laws_markPairS.f k t350 1).bind fun bt375 => ((laws_markPairS.f k t353 bt375.1).bind fun bt377 => ((laws_markIntervalS.f k t356 bt377.1).bind fun bt379 => (if bt379.1 < 0 then (laws_FnExactDiffParts.j0 k l0 l1 l2 t347 t359 true) else ((laws_eqIntS.f k t359 t347).bind fun t381 => (laws_FnExactDiffParts.j0 k l0 l1 l2 t347 t359 (!t381))))))) else (some false)))) else (some false)))) else (some false))) = some r := H
          have A26 := Aside0.mk A260
          clear A260
          replace H := Option.bind_eq_some_iff.mp H
          obtain ⟨t366, A270, H⟩ := H
          replace H : (if t366 = true then ((laws_toPairS.f k l1).bind fun t367 => ((laws_eqPairS.f k t353 t367).bind fun t370 => (if t370 = true then ((laws_toIntervalS.f k l2).bind fun t371 => ((laws_eqIntervalS.f k t356 t371).bind fun t374 => (if t374 = true then ((laws_markPairS.f k t350 1).bind fun bt375 => ((laws_markPairS.f k t353 bt375.1).bind fun bt377 => ((laws_markIntervalS.f k t356 bt377.1).bind fun bt379 => (if bt379.1 < 0 then (laws_FnExactDiffParts.j0 k l0 l1 l2 t347 t359 true) else ((laws_eqIntS.f k t359 t347).bind fun t381 => (laws_FnExactDiffParts.j0 k l0 l1 l2 t347 t359 (!t381))))))) else (some false)))) else (some false)))) else (some false)) = some r := H
          have A27 := Aside0.mk A270
          clear A270
          by_cases c28 : t366 = true
          · subst c28
            have H1 : ((laws_toPairS.f k l1).bind fun t367 => ((laws_eqPairS.f k t353 t367).bind fun t370 => (if t370 = true then ((laws_toIntervalS.f k l2).bind fun t371 => ((laws_eqIntervalS.f k t356 t371).bind fun t374 => (if t374 = true then ((laws_markPairS.f k t350 1).bind fun bt375 => ((laws_markPairS.f k t353 bt375.1).bind fun bt377 => ((laws_markIntervalS.f k t356 bt377.1).bind fun bt379 => (if bt379.1 < 0 then (laws_FnExactDiffParts.j0 k l0 l1 l2 t347 t359 true) else ((laws_eqIntS.f k t359 t347).bind fun t381 => (laws_FnExactDiffParts.j0 k l0 l1 l2 t347 t359 (!t381))))))) else (some false)))) else (some false)))) = some r := by rw [if_pos rfl] at H; exact H
            clear H
            have H := H1
            clear H1
            replace H := Option.bind_eq_some_iff.mp H
            obtain ⟨t367, A290, H⟩ := H
            replace H : ((laws_eqPairS.f k t353 t367).bind fun t370 => (if t370 = true then ((laws_toIntervalS.f k l2).bind fun t371 => ((laws_eqIntervalS.f k t356 t371).bind fun t374 => (if t374 = true then ((laws_markPairS.f k t350 1).bind fun bt375 => ((laws_markPairS.f k t353 bt375.1).bind fun bt377 => ((laws_markIntervalS.f k t356 bt377.1).bind fun bt379 => (if bt379.1 < 0 then (laws_FnExactDiffParts.j0 k l0 l1 l2 t347 t359 true) else ((laws_eqIntS.f k t359 t347).bind fun t381 => (laws_FnExactDiffParts.j0 k l0 l1 l2 t347 t359 (!t381))))))) else (some false)))) else (some false))) = some r := H
            have A29 := Aside0.mk A290
            clear A290
            replace H := Option.bind_eq_some_iff.mp H
            obtain ⟨t370, A300, H⟩ := H
            replace H : (if t370 = true then ((laws_toIntervalS.f k l2).bind fun t371 => ((laws_eqIntervalS.f k t356 t371).bind fun t374 => (if t374 = true then ((laws_markPairS.f k t350 1).bind fun bt375 => ((laws_markPairS.f k t353 bt375.1).bind fun bt377 => ((laws_markIntervalS.f k t356 bt377.1).bind fun bt379 => (if bt379.1 < 0 then (laws_FnExactDiffParts.j0 k l0 l1 l2 t347 t359 true) else ((laws_eqIntS.f k t359 t347).bind fun t381 => (laws_FnExactDiffParts.j0 k l0 l1 l2 t347 t359 (!t381))))))) else (some false)))) else (some false)) = some r := H
            have A30 := Aside0.mk A300
            clear A300
            by_cases c31 : t370 = true
            · subst c31
              have H1 : ((laws_toIntervalS.f k l2).bind fun t371 => ((laws_eqIntervalS.f k t356 t371).bind fun t374 => (if t374 = true then ((laws_markPairS.f k t350 1).bind fun bt375 => ((laws_markPairS.f k t353 bt375.1).bind fun bt377 => ((laws_markIntervalS.f k t356 bt377.1).bind fun bt379 => (if bt379.1 < 0 then (laws_FnExactDiffParts.j0 k l0 l1 l2 t347 t359 true) else ((laws_eqIntS.f k t359 t347).bind fun t381 => (laws_FnExactDiffParts.j0 k l0 l1 l2 t347 t359 (!t381))))))) else (some false)))) = some r := by rw [if_pos rfl] at H; exact H
              clear H
              have H := H1
              clear H1
              replace H := Option.bind_eq_some_iff.mp H
              obtain ⟨t371, A320, H⟩ := H
              replace H : ((laws_eqIntervalS.f k t356 t371).bind fun t374 => (if t374 = true then ((laws_markPairS.f k t350 1).bind fun bt375 => ((laws_markPairS.f k t353 bt375.1).bind fun bt377 => ((laws_markIntervalS.f k t356 bt377.1).bind fun bt379 => (if bt379.1 < 0 then (laws_FnExactDiffParts.j0 k l0 l1 l2 t347 t359 true) else ((laws_eqIntS.f k t359 t347).bind fun t381 => (laws_FnExactDiffParts.j0 k l0 l1 l2 t347 t359 (!t381))))))) else (some false))) = some r := H
              have A32 := Aside0.mk A320
              clear A320
              replace H := Option.bind_eq_some_iff.mp H
              obtain ⟨t374, A330, H⟩ := H
              replace H : (if t374 = true then ((laws_markPairS.f k t350 1).bind fun bt375 => ((laws_markPairS.f k t353 bt375.1).bind fun bt377 => ((laws_markIntervalS.f k t356 bt377.1).bind fun bt379 => (if bt379.1 < 0 then (laws_FnExactDiffParts.j0 k l0 l1 l2 t347 t359 true) else ((laws_eqIntS.f k t359 t347).bind fun t381 => (laws_FnExactDiffParts.j0 k l0 l1 l2 t347 t359 (!t381))))))) else (some false)) = some r := H
              have A33 := Aside0.mk A330
              clear A330
              by_cases c34 : t374 = true
              · subst c34
                have H1 : ((laws_markPairS.f k t350 1).bind fun bt375 => ((laws_markPairS.f k t353 bt375.1).bind fun bt377 => ((laws_markIntervalS.f k t356 bt377.1).bind fun bt379 => (if bt379.1 < 0 then (laws_FnExactDiffParts.j0 k l0 l1 l2 t347 t359 true) else ((laws_eqIntS.f k t359 t347).bind fun t381 => (laws_FnExactDiffParts.j0 k l0 l1 l2 t347 t359 (!t381))))))) = some r := by rw [if_pos rfl] at H; exact H
                clear H
                have H := H1
                clear H1
                replace H := Option.bind_eq_some_iff.mp H
                obtain ⟨⟨t375, t376⟩, A350, H⟩ := H
                replace H : ((laws_markPairS.f k t353 t375).bind fun bt377 => ((laws_markIntervalS.f k t356 bt377.1).bind fun bt379 => (if bt379.1 < 0 then (laws_FnExactDiffParts.j0 k l0 l1 l2 t347 t359 true) else ((laws_eqIntS.f k t359 t347).bind fun t381 => (laws_FnExactDiffParts.j0 k l0 l1 l2 t347 t359 (!t381)))))) = some r := H
                have A35 := Aside0.mk A350
                clear A350
                replace H := Option.bind_eq_some_iff.mp H
                obtain ⟨⟨t377, t378⟩, A360, H⟩ := H
                replace H : ((laws_markIntervalS.f k t356 t377).bind fun bt379 => (if bt379.1 < 0 then (laws_FnExactDiffParts.j0 k l0 l1 l2 t347 t359 true) else ((laws_eqIntS.f k t359 t347).bind fun t381 => (laws_FnExactDiffParts.j0 k l0 l1 l2 t347 t359 (!t381))))) = some r := H
                have A36 := Aside0.mk A360
                clear A360
                replace H := Option.bind_eq_some_iff.mp H
                obtain ⟨⟨t379, t380⟩, A370, H⟩ := H
                replace H : (if t379 < 0 then (laws_FnExactDiffParts.j0 k l0 l1 l2 t347 t359 true) else ((laws_eqIntS.f k t359 t347).bind fun t381 => (laws_FnExactDiffParts.j0 k l0 l1 l2 t347 t359 (!t381)))) = some r := H
                have A37 := Aside0.mk A370
                clear A370
                have HC38 := Aside0.mk H
                clear H
                go_enter Try.func8, Try.ntmps8
                go_upto_region 28 with (first | ((with_reducible refine gate_callee (f := 25) rfl ?_); refine gsl (some 19) rfl Try.func25 #[.slice A0 l0.length c0, .int .i64 1048576] rfl ?_; (with_reducible refine (laws_szPairS.calls k _ _ l0 1048576 t335 _ ?side1 ?side2 A4.out).mono ?_); (case side1 => exact cc HR0.out); (case side2 => exact HC0.out); rintro e w39 ⟨rfl, hb⟩; refine ⟨_, rfl, ?_⟩; replace HB := an0 HB hb; (try clear hb); (try clear hb2); (try clear hk); (try clear hi)) | ((with_reducible refine gate_callee (f := 25) rfl ?_); refine gsl (some 24) rfl Try.func25 #[.slice A1 l1.length c1, .int .i64 t335] rfl ?_; (with_reducible refine (laws_szPairS.calls k _ _ l1 t335 t336 _ ?side1 ?side2 A7.out).mono ?_); (case side1 => exact cc (Kd.C_below HR1.out HB.out)); (case side2 => exact HC1.out); rintro e w40 ⟨rfl, hb⟩; refine ⟨_, rfl, ?_⟩; replace HB := an0 HB hb; (try clear hb); (try clear hb2); (try clear hk); (try clear hi)) | ((with_reducible refine gate_callee (f := 41) rfl ?_); refine gsl (some 29) rfl Try.func41 #[.slice A2 l2.length c2, .int .i64 t336] rfl ?_; (with_reducible refine (laws_szIntervalS.calls k _ _ l2 t336 t337 _ ?side1 ?side2 A11.out).mono ?_); (case side1 => exact cc (Kd.C_below HR2.out HB.out)); (case side2 => exact HC2.out); rintro e w41 ⟨rfl, hb⟩; refine ⟨_, rfl, ?_⟩; replace HB := an0 HB hb; (try clear hb); (try clear hb2); (try clear hk); (try clear hi)) | ((with_reducible refine gate_callee (f := 28) rfl ?_); refine gsl (some 33) rfl Try.func28 #[.slice A0 l0.length c0] rfl ?_; (with_reducible refine (laws_toPairS.calls k _ _ l0 t338 _ ?side1 ?side2 A16.out).mono ?_); (case side1 => exact cc (Kd.C_below HR0.out HB.out)); (case side2 => exact HC0.out); rintro e w42 ⟨v339, rfl, ho0, hb⟩; refine ⟨_, rfl, ?_⟩; have n0_ := Aside0.mk (Kd.R_lower ho0 (below_size (bp HB.out))); have n1_ := an0 HB hb; clear HB; have HO340 := n0_; have HB := n1_; clear n0_ n1_; (try clear hb); (try clear hb2); (try clear hk); (try clear hi); (try clear ho0)) | ((with_reducible refine gate_callee (f := 28) rfl ?_); refine gsl (some 35) rfl Try.func28 #[.slice A1 l1.length c1] rfl ?_; (with_reducible refine (laws_toPairS.calls k _ _ l1 t341 _ ?side1 ?side2 A17.out).mono ?_); (case side1 => exact cc (Kd.C_below HR1.out HB.out)); (case side2 => exact HC1.out); rintro e w43 ⟨v342, rfl, ho0, hb⟩; refine ⟨_, rfl, ?_⟩; have n0_ := Aside0.mk (Kd.R_elder' (kr HO340.out) (Kd.R_base ho0) hb); have n1_ := Aside0.mk (Kd.R_lower (Kd.R_new' ho0 (Kd.R_lt (kr HO340.out))) (below_size (bp HB.out))); have n2_ := an0 HB hb; clear HO340; clear HB; have HO340 := n0_; have HO343 := n1_; have HB := n2_; clear n0_ n1_ n2_; (try clear hb); (try clear hb2); (try clear hk); (try clear hi); (try clear ho0)) | ((with_reducible refine gate_callee (f := 42) rfl ?_); refine gsl (some 37) rfl Try.func42 #[.slice A2 l2.length c2] rfl ?_; (with_reducible refine (laws_toIntervalS.calls k _ _ l2 t344 _ ?side1 ?side2 A18.out).mono ?_); (case side1 => exact cc (Kd.C_below HR2.out HB.out)); (case side2 => exact HC2.out); rintro e w44 ⟨v345, rfl, ho0, hb⟩; refine ⟨_, rfl, ?_⟩; have n0_ := Aside0.mk (Kd.R_below (kr HO340.out) hb); have n1_ := Aside0.mk (Kd.R_below (kr HO343.out) hb); have n2_ := Aside0.mk (Kd.R_lower ho0 (below_size (bp HB.out))); have n3_ := an0 HB hb; clear HO340; clear HO343; clear HB; have HO340 := n0_; have HO343 := n1_; have HO346 := n2_; have HB := n3_; clear n0_ n1_ n2_ n3_; (try clear hb); (try clear hb2); (try clear hk); (try clear hi); (try clear ho0); obtain ⟨Ao45, co45, eo45⟩ := Kd.R_slice HO340.out; subst eo45; obtain ⟨Ao46, co46, eo46⟩ := Kd.R_slice HO343.out; subst eo46; obtain ⟨Ao47, co47, eo47⟩ := Kd.R_slice HO346.out; subst eo47) | ((with_reducible refine gate_callee (f := 48) rfl ?_); refine gsl (some 38) rfl Try.func48 #[.slice Ao45 t338.length co45, .slice Ao46 t341.length co46, .slice Ao47 t344.length co47] rfl ?_; (with_reducible refine (spec_DiffParts.calls k _ _ t338 _ _ t341 _ _ t344 t347 _ ?side1 ?side2 ?side3 ?side4 ?side5 ?side6 A19.out).mono ?_); (case side1 => exact laws_FnExactDiffParts.s0 HO340.out); (case side2 => exact (Kd.R_reads' HO340.out).2.1); (case side3 => exact laws_FnExactDiffParts.s0 HO343.out); (case side4 => exact (Kd.R_reads' HO343.out).2.1); (case side5 => exact laws_FnExactDiffParts.s0 HO346.out); (case side6 => exact (Kd.R_reads' HO346.out).2.1); rintro e w48 ⟨v348, rfl, ho0, hb⟩; refine ⟨_, rfl, ?_⟩; have n0_ := Aside0.mk (Kd.R_below (kr HO340.out) hb); have n1_ := Aside0.mk (Kd.R_below (kr HO343.out) hb); have n2_ := Aside0.mk (Kd.R_below (kr HO346.out) hb); have n3_ := Aside0.mk (Kd.R_lower ho0 (below_size (bp HB.out))); have n4_ := an0 HB hb; clear HO340; clear HO343; clear HO346; clear HB; have HO340 := n0_; have HO343 := n1_; have HO346 := n2_; have HO349 := n3_; have HB := n4_; clear n0_ n1_ n2_ n3_ n4_; (try clear hb); (try clear hb2); (try clear hk); (try clear hi); (try clear ho0)) | ((with_reducible refine gate_callee (f := 28) rfl ?_); refine gsl (some 40) rfl Try.func28 #[.slice A0 l0.length c0] rfl ?_; (with_reducible refine (laws_toPairS.calls k _ _ l0 t350 _ ?side1 ?side2 A20.out).mono ?_); (case side1 => exact cc (Kd.C_below HR0.out HB.out)); (case side2 => exact HC0.out); rintro e w49 ⟨v351, rfl, ho0, hb⟩; refine ⟨_, rfl, ?_⟩; have n0_ := Aside0.mk (Kd.R_elder' (kr HO340.out) (Kd.R_base ho0) hb); have n1_ := Aside0.mk (Kd.R_elder' (kr HO343.out) (Kd.R_base ho0) hb); have n2_ := Aside0.mk (Kd.R_below (kr HO346.out) hb); have n3_ := Aside0.mk (Kd.R_below (kr HO349.out) hb); have n4_ := Aside0.mk (Kd.R_lower (Kd.R_new' (Kd.R_new' ho0 (Kd.R_lt (kr HO340.out))) (Kd.R_lt (kr HO343.out))) (below_size (bp HB.out))); have n5_ := an0 HB hb; clear HO340; clear HO343; clear HO346; clear HO349; clear HB; have HO340 := n0_; have HO343 := n1_; have HO346 := n2_; have HO349 := n3_; have HO352 := n4_; have HB := n5_; clear n0_ n1_ n2_ n3_ n4_ n5_; (try clear hb); (try clear hb2); (try clear hk); (try clear hi); (try clear ho0)) | ((with_reducible refine gate_callee (f := 28) rfl ?_); refine gsl (some 42) rfl Try.func28 #[.slice A1 l1.length c1] rfl ?_; (with_reducible refine (laws_toPairS.calls k _ _ l1 t353 _ ?side1 ?side2 A21.out).mono ?_); (case side1 => exact cc (Kd.C_below HR1.out HB.out)); (case side2 => exact HC1.out); rintro e w50 ⟨v354, rfl, ho0, hb⟩; refine ⟨_, rfl, ?_⟩; have n0_ := Aside0.mk (Kd.R_elder' (kr HO340.out) (Kd.R_base ho0) hb); have n1_ := Aside0.mk (Kd.R_elder' (kr HO343.out) (Kd.R_base ho0) hb); have n2_ := Aside0.mk (Kd.R_below (kr HO346.out) hb); have n3_ := Aside0.mk (Kd.R_below (kr HO349.out) hb); have n4_ := Aside0.mk (Kd.R_elder' (kr HO352.out) (Kd.R_base ho0) hb); have n5_ := Aside0.mk (Kd.R_lower (Kd.R_new' (Kd.R_new' (Kd.R_new' ho0 (Kd.R_lt (kr HO340.out))) (Kd.R_lt (kr HO343.out))) (Kd.R_lt (kr HO352.out))) (below_size (bp HB.out))); have n6_ := an0 HB hb; clear HO340; clear HO343; clear HO346; clear HO349; clear HO352; clear HB; have HO340 := n0_; have HO343 := n1_; have HO346 := n2_; have HO349 := n3_; have HO352 := n4_; have HO355 := n5_; have HB := n6_; clear n0_ n1_ n2_ n3_ n4_ n5_ n6_; (try clear hb); (try clear hb2); (try clear hk); (try clear hi); (try clear ho0)) | ((with_reducible refine gate_callee (f := 42) rfl ?_); refine gsl (some 44) rfl Try.func42 #[.slice A2 l2.length c2] rfl ?_; (with_reducible refine (laws_toIntervalS.calls k _ _ l2 t356 _ ?side1 ?side2 A22.out).mono ?_); (case side1 => exact cc (Kd.C_below HR2.out HB.out)); (case side2 => exact HC2.out); rintro e w51 ⟨v357, rfl, ho0, hb⟩; refine ⟨_, rfl, ?_⟩; have n0_ := Aside0.mk (Kd.R_below (kr HO340.out) hb); have n1_ := Aside0.mk (Kd.R_below (kr HO343.out) hb); have n2_ := Aside0.mk (Kd.R_elder' (kr HO346.out) (Kd.R_base ho0) hb); have n3_ := Aside0.mk (Kd.R_below (kr HO349.out) hb); have n4_ := Aside0.mk (Kd.R_below (kr HO352.out) hb); have n5_ := Aside0.mk (Kd.R_below (kr HO355.out) hb); have n6_ := Aside0.mk (Kd.R_lower (Kd.R_new' ho0 (Kd.R_lt (kr HO346.out))) (below_size (bp HB.out))); have n7_ := an0 HB hb; clear HO340; clear HO343; clear HO346; clear HO349; clear HO352; clear HO355; clear HB; have HO340 := n0_; have HO343 := n1_; have HO346 := n2_; have HO349 := n3_; have HO352 := n4_; have HO355 := n5_; have HO358 := n6_; have HB := n7_; clear n0_ n1_ n2_ n3_ n4_ n5_ n6_ n7_; (try clear hb); (try clear hb2); (try clear hk); (try clear hi); (try clear ho0); obtain ⟨Ao52, co52, eo52⟩ := Kd.R_slice HO352.out; subst eo52; obtain ⟨Ao53, co53, eo53⟩ := Kd.R_slice HO355.out; subst eo53; obtain ⟨Ao54, co54, eo54⟩ := Kd.R_slice HO358.out; subst eo54) | ((with_reducible refine gate_callee (f := 49) rfl ?_); refine gsl (some 48) rfl Try.func49 #[.slice Ao52 t350.length co52, .slice Ao53 t353.length co53, .slice Ao54 t356.length co54] rfl ?_; (with_reducible refine (impl_DiffParts.calls k _ _ t350 _ _ t353 _ _ t356 t359 _ ?side1 ?side2 ?side3 ?side4 ?side5 ?side6 A23.out).mono ?_); (case side1 => exact laws_FnExactDiffParts.s0 HO352.out); (case side2 => exact (Kd.R_reads' HO352.out).2.1); (case side3 => exact laws_FnExactDiffParts.s0 HO355.out); (case side4 => exact (Kd.R_reads' HO355.out).2.1); (case side5 => exact laws_FnExactDiffParts.s0 HO358.out); (case side6 => exact (Kd.R_reads' HO358.out).2.1); rintro e w55 ⟨v360, rfl, ho0, hb⟩; refine ⟨_, rfl, ?_⟩; have n0_ := Aside0.mk (Kd.R_below (kr HO340.out) hb); have n1_ := Aside0.mk (Kd.R_below (kr HO343.out) hb); have n2_ := Aside0.mk (Kd.R_below (kr HO346.out) hb); have n3_ := Aside0.mk (Kd.R_elder' (kr HO349.out) (Kd.R_base ho0) hb); have n4_ := Aside0.mk (Kd.R_below (kr HO352.out) hb); have n5_ := Aside0.mk (Kd.R_below (kr HO355.out) hb); have n6_ := Aside0.mk (Kd.R_below (kr HO358.out) hb); have n7_ := Aside0.mk (Kd.R_lower (Kd.R_new' ho0 (Kd.R_lt (kr HO349.out))) (below_size (bp HB.out))); have n8_ := an0 HB hb; clear HO340; clear HO343; clear HO346; clear HO349; clear HO352; clear HO355; clear HO358; clear HB; have HO340 := n0_; have HO343 := n1_; have HO346 := n2_; have HO349 := n3_; have HO352 := n4_; have HO355 := n5_; have HO358 := n6_; have HO361 := n7_; have HB := n8_; clear n0_ n1_ n2_ n3_ n4_ n5_ n6_ n7_ n8_; (try clear hb); (try clear hb2); (try clear hk); (try clear hi); (try clear ho0); obtain ⟨Ao56, co56, eo56⟩ := Kd.R_slice HO361.out; subst eo56; obtain ⟨Ao57, co57, eo57⟩ := Kd.R_slice HO349.out; subst eo57) | ((with_reducible refine gate_callee (f := 43) rfl ?_); refine gsl (some 51) rfl Try.func43 #[.slice Ao56 t359.length co56, .slice Ao57 t347.length co57] rfl ?_; (with_reducible refine (laws_eqIntS.calls k _ _ t359 _ _ t347 true _ ?side1 ?side2 ?side3 ?side4 A24.out).mono ?_); (case side1 => exact laws_FnExactDiffParts.s0 HO361.out); (case side2 => exact (Kd.R_reads' HO361.out).2.1); (case side3 => exact laws_FnExactDiffParts.s0 HO349.out); (case side4 => exact (Kd.R_reads' HO349.out).2.1); rintro e w' ⟨rfl, ⟨nd, rfl⟩⟩; refine ⟨_, rfl, ?_⟩) | ((with_reducible refine gate_callee (f := 28) rfl ?_); refine gsl (some 55) rfl Try.func28 #[.slice A0 l0.length c0] rfl ?_; (with_reducible refine (laws_toPairS.calls k _ _ l0 t363 _ ?side1 ?side2 A26.out).mono ?_); (case side1 => repeat (first | exact (Kd.C_below HR0.out (bp HB.out)) | (with_reducible refine Kd.C_alloc ?_ _) | (with_reducible refine Kd.C_drewN ?_ _) | (with_reducible refine Kd.C_drew ?_))); (case side2 => exact HC0.out); rintro e w58 ⟨v364, rfl, ho0, hb⟩; refine ⟨_, rfl, ?_⟩; have n0_ := Aside0.mk (Kd.R_elder' (kr HO340.out) (Kd.R_base ho0) hb); have n1_ := Aside0.mk (Kd.R_elder' (kr HO343.out) (Kd.R_base ho0) hb); have n2_ := Aside0.mk (Kd.R_below (kr HO346.out) hb); have n3_ := Aside0.mk (Kd.R_below (kr HO349.out) hb); have n4_ := Aside0.mk (Kd.R_elder' (kr HO352.out) (Kd.R_base ho0) hb); have n5_ := Aside0.mk (Kd.R_elder' (kr HO355.out) (Kd.R_base ho0) hb); have n6_ := Aside0.mk (Kd.R_below (kr HO358.out) hb); have n7_ := Aside0.mk (Kd.R_below (kr HO361.out) hb); have n8_ := Aside0.mk (Kd.R_lower (Kd.R_new' (Kd.R_new' (Kd.R_new' (Kd.R_new' ho0 (Kd.R_lt (kr HO340.out))) (Kd.R_lt (kr HO343.out))) (Kd.R_lt (kr HO352.out))) (Kd.R_lt (kr HO355.out))) (below_size (bp HB.out))); have n9_ := an0 HB hb; clear HO340; clear HO343; clear HO346; clear HO349; clear HO352; clear HO355; clear HO358; clear HO361; clear HB; have HO340 := n0_; have HO343 := n1_; have HO346 := n2_; have HO349 := n3_; have HO352 := n4_; have HO355 := n5_; have HO358 := n6_; have HO361 := n7_; have HO365 := n8_; have HB := n9_; clear n0_ n1_ n2_ n3_ n4_ n5_ n6_ n7_ n8_ n9_; (try clear hb); (try clear hb2); (try clear hk); (try clear hi); (try clear ho0); obtain ⟨Ao59, co59, eo59⟩ := Kd.R_slice HO365.out; subst eo59) | ((with_reducible refine gate_callee (f := 31) rfl ?_); refine gsl (some 56) rfl Try.func31 #[.slice Ao52 t350.length co52, .slice Ao59 t363.length co59] rfl ?_; (with_reducible refine (laws_eqPairS.calls k _ _ t350 _ _ t363 true _ ?side1 ?side2 ?side3 ?side4 A27.out).mono ?_); (case side1 => exact laws_FnExactDiffParts.s0 HO352.out); (case side2 => exact (Kd.R_reads' HO352.out).2.1); (case side3 => exact laws_FnExactDiffParts.s0 HO365.out); (case side4 => exact (Kd.R_reads' HO365.out).2.1); rintro e w60 ⟨rfl, hb⟩; refine ⟨_, rfl, ?_⟩; have n0_ := Aside0.mk (Kd.R_below (kr HO340.out) hb); have n1_ := Aside0.mk (Kd.R_below (kr HO343.out) hb); have n2_ := Aside0.mk (Kd.R_below (kr HO346.out) hb); have n3_ := Aside0.mk (Kd.R_below (kr HO349.out) hb); have n4_ := Aside0.mk (Kd.R_below (kr HO352.out) hb); have n5_ := Aside0.mk (Kd.R_below (kr HO355.out) hb); have n6_ := Aside0.mk (Kd.R_below (kr HO358.out) hb); have n7_ := Aside0.mk (Kd.R_below (kr HO361.out) hb); have n8_ := Aside0.mk (Kd.R_below (kr HO365.out) hb); have n9_ := an0 HB hb; clear HO340; clear HO343; clear HO346; clear HO349; clear HO352; clear HO355; clear HO358; clear HO361; clear HO365; clear HB; have HO340 := n0_; have HO343 := n1_; have HO346 := n2_; have HO349 := n3_; have HO352 := n4_; have HO355 := n5_; have HO358 := n6_; have HO361 := n7_; have HO365 := n8_; have HB := n9_; clear n0_ n1_ n2_ n3_ n4_ n5_ n6_ n7_ n8_ n9_; (try clear hb); (try clear hb2); (try clear hk); (try clear hi)) | ((with_reducible refine gate_callee (f := 28) rfl ?_); refine gsl (some 60) rfl Try.func28 #[.slice A1 l1.length c1] rfl ?_; (with_reducible refine (laws_toPairS.calls k _ _ l1 t367 _ ?side1 ?side2 A29.out).mono ?_); (case side1 => exact cc (Kd.C_below HR1.out HB.out)); (case side2 => exact HC1.out); rintro e w61 ⟨v368, rfl, ho0, hb⟩; refine ⟨_, rfl, ?_⟩; have n0_ := Aside0.mk (Kd.R_elder' (kr HO340.out) (Kd.R_base ho0) hb); have n1_ := Aside0.mk (Kd.R_elder' (kr HO343.out) (Kd.R_base ho0) hb); have n2_ := Aside0.mk (Kd.R_below (kr HO346.out) hb); have n3_ := Aside0.mk (Kd.R_below (kr HO349.out) hb); have n4_ := Aside0.mk (Kd.R_elder' (kr HO352.out) (Kd.R_base ho0) hb); have n5_ := Aside0.mk (Kd.R_elder' (kr HO355.out) (Kd.R_base ho0) hb); have n6_ := Aside0.mk (Kd.R_below (kr HO358.out) hb); have n7_ := Aside0.mk (Kd.R_below (kr HO361.out) hb); have n8_ := Aside0.mk (Kd.R_elder' (kr HO365.out) (Kd.R_base ho0) hb); have n9_ := Aside0.mk (Kd.R_lower (Kd.R_new' (Kd.R_new' (Kd.R_new' (Kd.R_new' (Kd.R_new' ho0 (Kd.R_lt (kr HO340.out))) (Kd.R_lt (kr HO343.out))) (Kd.R_lt (kr HO352.out))) (Kd.R_lt (kr HO355.out))) (Kd.R_lt (kr HO365.out))) (below_size (bp HB.out))); have n10_ := an0 HB hb; clear HO340; clear HO343; clear HO346; clear HO349; clear HO352; clear HO355; clear HO358; clear HO361; clear HO365; clear HB; have HO340 := n0_; have HO343 := n1_; have HO346 := n2_; have HO349 := n3_; have HO352 := n4_; have HO355 := n5_; have HO358 := n6_; have HO361 := n7_; have HO365 := n8_; have HO369 := n9_; have HB := n10_; clear n0_ n1_ n2_ n3_ n4_ n5_ n6_ n7_ n8_ n9_ n10_; (try clear hb); (try clear hb2); (try clear hk); (try clear hi); (try clear ho0); obtain ⟨Ao62, co62, eo62⟩ := Kd.R_slice HO369.out; subst eo62) | ((with_reducible refine gate_callee (f := 31) rfl ?_); refine gsl (some 61) rfl Try.func31 #[.slice Ao53 t353.length co53, .slice Ao62 t367.length co62] rfl ?_; (with_reducible refine (laws_eqPairS.calls k _ _ t353 _ _ t367 true _ ?side1 ?side2 ?side3 ?side4 A30.out).mono ?_); (case side1 => exact laws_FnExactDiffParts.s0 HO355.out); (case side2 => exact (Kd.R_reads' HO355.out).2.1); (case side3 => exact laws_FnExactDiffParts.s0 HO369.out); (case side4 => exact (Kd.R_reads' HO369.out).2.1); rintro e w63 ⟨rfl, hb⟩; refine ⟨_, rfl, ?_⟩; have n0_ := Aside0.mk (Kd.R_below (kr HO340.out) hb); have n1_ := Aside0.mk (Kd.R_below (kr HO343.out) hb); have n2_ := Aside0.mk (Kd.R_below (kr HO346.out) hb); have n3_ := Aside0.mk (Kd.R_below (kr HO349.out) hb); have n4_ := Aside0.mk (Kd.R_below (kr HO352.out) hb); have n5_ := Aside0.mk (Kd.R_below (kr HO355.out) hb); have n6_ := Aside0.mk (Kd.R_below (kr HO358.out) hb); have n7_ := Aside0.mk (Kd.R_below (kr HO361.out) hb); have n8_ := Aside0.mk (Kd.R_below (kr HO365.out) hb); have n9_ := Aside0.mk (Kd.R_below (kr HO369.out) hb); have n10_ := an0 HB hb; clear HO340; clear HO343; clear HO346; clear HO349; clear HO352; clear HO355; clear HO358; clear HO361; clear HO365; clear HO369; clear HB; have HO340 := n0_; have HO343 := n1_; have HO346 := n2_; have HO349 := n3_; have HO352 := n4_; have HO355 := n5_; have HO358 := n6_; have HO361 := n7_; have HO365 := n8_; have HO369 := n9_; have HB := n10_; clear n0_ n1_ n2_ n3_ n4_ n5_ n6_ n7_ n8_ n9_ n10_; (try clear hb); (try clear hb2); (try clear hk); (try clear hi)) | ((with_reducible refine gate_callee (f := 42) rfl ?_); refine gsl (some 65) rfl Try.func42 #[.slice A2 l2.length c2] rfl ?_; (with_reducible refine (laws_toIntervalS.calls k _ _ l2 t371 _ ?side1 ?side2 A32.out).mono ?_); (case side1 => exact cc (Kd.C_below HR2.out HB.out)); (case side2 => exact HC2.out); rintro e w64 ⟨v372, rfl, ho0, hb⟩; refine ⟨_, rfl, ?_⟩; have n0_ := Aside0.mk (Kd.R_below (kr HO340.out) hb); have n1_ := Aside0.mk (Kd.R_below (kr HO343.out) hb); have n2_ := Aside0.mk (Kd.R_elder' (kr HO346.out) (Kd.R_base ho0) hb); have n3_ := Aside0.mk (Kd.R_below (kr HO349.out) hb); have n4_ := Aside0.mk (Kd.R_below (kr HO352.out) hb); have n5_ := Aside0.mk (Kd.R_below (kr HO355.out) hb); have n6_ := Aside0.mk (Kd.R_elder' (kr HO358.out) (Kd.R_base ho0) hb); have n7_ := Aside0.mk (Kd.R_below (kr HO361.out) hb); have n8_ := Aside0.mk (Kd.R_below (kr HO365.out) hb); have n9_ := Aside0.mk (Kd.R_below (kr HO369.out) hb); have n10_ := Aside0.mk (Kd.R_lower (Kd.R_new' (Kd.R_new' ho0 (Kd.R_lt (kr HO346.out))) (Kd.R_lt (kr HO358.out))) (below_size (bp HB.out))); have n11_ := an0 HB hb; clear HO340; clear HO343; clear HO346; clear HO349; clear HO352; clear HO355; clear HO358; clear HO361; clear HO365; clear HO369; clear HB; have HO340 := n0_; have HO343 := n1_; have HO346 := n2_; have HO349 := n3_; have HO352 := n4_; have HO355 := n5_; have HO358 := n6_; have HO361 := n7_; have HO365 := n8_; have HO369 := n9_; have HO373 := n10_; have HB := n11_; clear n0_ n1_ n2_ n3_ n4_ n5_ n6_ n7_ n8_ n9_ n10_ n11_; (try clear hb); (try clear hb2); (try clear hk); (try clear hi); (try clear ho0); obtain ⟨Ao65, co65, eo65⟩ := Kd.R_slice HO373.out; subst eo65) | ((with_reducible refine gate_callee (f := 44) rfl ?_); refine gsl (some 66) rfl Try.func44 #[.slice Ao54 t356.length co54, .slice Ao65 t371.length co65] rfl ?_; (with_reducible refine (laws_eqIntervalS.calls k _ _ t356 _ _ t371 true _ ?side1 ?side2 ?side3 ?side4 A33.out).mono ?_); (case side1 => exact laws_FnExactDiffParts.s0 HO358.out); (case side2 => exact (Kd.R_reads' HO358.out).2.1); (case side3 => exact laws_FnExactDiffParts.s0 HO373.out); (case side4 => exact (Kd.R_reads' HO373.out).2.1); rintro e w66 ⟨rfl, hb⟩; refine ⟨_, rfl, ?_⟩; have n0_ := Aside0.mk (Kd.R_below (kr HO340.out) hb); have n1_ := Aside0.mk (Kd.R_below (kr HO343.out) hb); have n2_ := Aside0.mk (Kd.R_below (kr HO346.out) hb); have n3_ := Aside0.mk (Kd.R_below (kr HO349.out) hb); have n4_ := Aside0.mk (Kd.R_below (kr HO352.out) hb); have n5_ := Aside0.mk (Kd.R_below (kr HO355.out) hb); have n6_ := Aside0.mk (Kd.R_below (kr HO358.out) hb); have n7_ := Aside0.mk (Kd.R_below (kr HO361.out) hb); have n8_ := Aside0.mk (Kd.R_below (kr HO365.out) hb); have n9_ := Aside0.mk (Kd.R_below (kr HO369.out) hb); have n10_ := Aside0.mk (Kd.R_below (kr HO373.out) hb); have n11_ := an0 HB hb; clear HO340; clear HO343; clear HO346; clear HO349; clear HO352; clear HO355; clear HO358; clear HO361; clear HO365; clear HO369; clear HO373; clear HB; have HO340 := n0_; have HO343 := n1_; have HO346 := n2_; have HO349 := n3_; have HO352 := n4_; have HO355 := n5_; have HO358 := n6_; have HO361 := n7_; have HO365 := n8_; have HO369 := n9_; have HO373 := n10_; have HB := n11_; clear n0_ n1_ n2_ n3_ n4_ n5_ n6_ n7_ n8_ n9_ n10_ n11_; (try clear hb); (try clear hb2); (try clear hk); (try clear hi)) | ((with_reducible refine gate_callee (f := 33) rfl ?_); refine gsl (some 70) rfl Try.func33 #[.slice Ao52 t350.length co52, .int .i64 1] rfl ?_; (with_reducible refine (laws_markPairS.calls k (fun k_ => some k_ = (.slice Ao52 t350.length co52 : Value).ownBlock) (.slice Ao52 t350.length co52) t350 1 t375 t376 w _ ?side1 ?side2 A35.out).mono ?_); (case side1 => exact laws_FnExactDiffParts.s1 HB.out); (case side2 => exact Kd.R_tight rfl HO352.out); rintro e w67 ⟨rfl, hy0, hb, hkp⟩; refine ⟨_, rfl, ?_⟩; have n0_ := Aside0.mk (Kd.R_mono (ok' := fun k_ => some k_ ≠ (.slice Ao46 t341.length co46 : Value).ownBlock ∧ some k_ ≠ (.slice Ao52 t350.length co52 : Value).ownBlock ∧ some k_ ≠ (.slice Ao53 t353.length co53 : Value).ownBlock ∧ some k_ ≠ (.slice Ao59 t363.length co59 : Value).ownBlock ∧ some k_ ≠ (.slice Ao62 t367.length co62 : Value).ownBlock) (Kd.R_keptB (HO340.out) hkp (fun k_ hk_ hs_ => (hk_.1.1.1.2) hs_)) (fun k_ hk_ => ⟨hk_.1.1.1.1.1.2, hk_.1.1.1.1.2, hk_.1.1.1.2, hk_.1.1.2, hk_.1.2⟩)); have n1_ := Aside0.mk (Kd.R_mono (ok' := fun k_ => some k_ ≠ (.slice Ao45 t338.length co45 : Value).ownBlock ∧ some k_ ≠ (.slice Ao52 t350.length co52 : Value).ownBlock ∧ some k_ ≠ (.slice Ao53 t353.length co53 : Value).ownBlock ∧ some k_ ≠ (.slice Ao59 t363.length co59 : Value).ownBlock ∧ some k_ ≠ (.slice Ao62 t367.length co62 : Value).ownBlock) (Kd.R_keptB (HO343.out) hkp (fun k_ hk_ hs_ => (hk_.1.1.1.2) hs_)) (fun k_ hk_ => ⟨hk_.1.1.1.1.1.2, hk_.1.1.1.1.2, hk_.1.1.1.2, hk_.1.1.2, hk_.1.2⟩)); have n2_ := Aside0.mk (Kd.R_mono (ok' := fun k_ => some k_ ≠ (.slice Ao54 t356.length co54 : Value).ownBlock ∧ some k_ ≠ (.slice Ao65 t371.length co65 : Value).ownBlock) (Kd.R_keptB ((Kd.R_apart' HO346.out (Kd.R_typed HO352.out) (by decide))) hkp (fun k_ hk_ hs_ => (hk_.2) hs_)) (fun k_ hk_ => ⟨hk_.1.1.1.2, hk_.1.1.2⟩)); have n3_ := Aside0.mk (Kd.R_mono (ok' := fun k_ => some k_ ≠ (.slice Ao56 t359.length co56 : Value).ownBlock) (Kd.R_keptB ((Kd.R_apart' HO349.out (Kd.R_typed HO352.out) (by decide))) hkp (fun k_ hk_ hs_ => (hk_.2) hs_)) (fun k_ hk_ => hk_.1.1.2)); have n4_ := Aside0.mk (Kd.R_reok rfl hy0 (fun k_ e_ => HO352.out.1 k_ e_)); have n5_ := Aside0.mk (Kd.R_mono (ok' := fun k_ => some k_ ≠ (.slice Ao45 t338.length co45 : Value).ownBlock ∧ some k_ ≠ (.slice Ao46 t341.length co46 : Value).ownBlock ∧ some k_ ≠ (.slice Ao52 t350.length co52 : Value).ownBlock ∧ some k_ ≠ (.slice Ao59 t363.length co59 : Value).ownBlock ∧ some k_ ≠ (.slice Ao62 t367.length co62 : Value).ownBlock) (Kd.R_keptB (HO355.out) hkp (fun k_ hk_ hs_ => (hk_.1.1.2) hs_)) (fun k_ hk_ => ⟨hk_.1.1.1.1.1.2, hk_.1.1.1.1.2, hk_.1.1.1.2, hk_.1.1.2, hk_.1.2⟩)); have n6_ := Aside0.mk (Kd.R_mono (ok' := fun k_ => some k_ ≠ (.slice Ao47 t344.length co47 : Value).ownBlock ∧ some k_ ≠ (.slice Ao65 t371.length co65 : Value).ownBlock) (Kd.R_keptB ((Kd.R_apart' HO358.out (Kd.R_typed HO352.out) (by decide))) hkp (fun k_ hk_ hs_ => (hk_.2) hs_)) (fun k_ hk_ => ⟨hk_.1.1.1.2, hk_.1.1.2⟩)); have n7_ := Aside0.mk (Kd.R_mono (ok' := fun k_ => some k_ ≠ (.slice Ao57 t347.length co57 : Value).ownBlock) (Kd.R_keptB ((Kd.R_apart' HO361.out (Kd.R_typed HO352.out) (by decide))) hkp (fun k_ hk_ hs_ => (hk_.2) hs_)) (fun k_ hk_ => hk_.1.1.2)); have n8_ := Aside0.mk (Kd.R_mono (ok' := fun k_ => some k_ ≠ (.slice Ao45 t338.length co45 : Value).ownBlock ∧ some k_ ≠ (.slice Ao46 t341.length co46 : Value).ownBlock ∧ some k_ ≠ (.slice Ao52 t350.length co52 : Value).ownBlock ∧ some k_ ≠ (.slice Ao53 t353.length co53 : Value).ownBlock ∧ some k_ ≠ (.slice Ao62 t367.length co62 : Value).ownBlock) (Kd.R_keptB (HO365.out) hkp (fun k_ hk_ hs_ => (hk_.1.1.2) hs_)) (fun k_ hk_ => ⟨hk_.1.1.1.1.1.2, hk_.1.1.1.1.2, hk_.1.1.1.2, hk_.1.1.2, hk_.1.2⟩)); have n9_ := Aside0.mk (Kd.R_mono (ok' := fun k_ => some k_ ≠ (.slice Ao45 t338.length co45 : Value).ownBlock ∧ some k_ ≠ (.slice Ao46 t341.length co46 : Value).ownBlock ∧ some k_ ≠ (.slice Ao52 t350.length co52 : Value).ownBlock ∧ some k_ ≠ (.slice Ao53 t353.length co53 : Value).ownBlock ∧ some k_ ≠ (.slice Ao59 t363.length co59 : Value).ownBlock) (Kd.R_keptB (HO369.out) hkp (fun k_ hk_ hs_ => (hk_.1.1.2) hs_)) (fun k_ hk_ => ⟨hk_.1.1.1.1.1.2, hk_.1.1.1.1.2, hk_.1.1.1.2, hk_.1.1.2, hk_.1.2⟩)); have n10_ := Aside0.mk (Kd.R_mono (ok' := fun k_ => some k_ ≠ (.slice Ao47 t344.length co47 : Value).ownBlock ∧ some k_ ≠ (.slice Ao54 t356.length co54 : Value).ownBlock) (Kd.R_keptB ((Kd.R_apart' HO373.out (Kd.R_typed HO352.out) (by decide))) hkp (fun k_ hk_ hs_ => (hk_.2) hs_)) (fun k_ hk_ => ⟨hk_.1.1.1.2, hk_.1.1.2⟩)); have n11_ := Aside0.mk (hb); clear HO340; clear HO343; clear HO346; clear HO349; clear HO352; clear HO355; clear HO358; clear HO361; clear HO365; clear HO369; clear HO373; clear HB; have HO340 := n0_; have HO343 := n1_; have HO346 := n2_; have HO349 := n3_; have HO352 := n4_; have HO355 := n5_; have HO358 := n6_; have HO361 := n7_; have HO365 := n8_; have HO369 := n9_; have HO373 := n10_; have HB := n11_; clear n0_ n1_ n2_ n3_ n4_ n5_ n6_ n7_ n8_ n9_ n10_ n11_; (try clear hb); (try clear hkp); (try clear hy0)) | ((with_reducible refine gate_callee (f := 33) rfl ?_); refine gsl (some 73) rfl Try.func33 #[.slice Ao53 t353.length co53, .int .i64 t375] rfl ?_; (with_reducible refine (laws_markPairS.calls k (fun k_ => some k_ = (.slice Ao53 t353.length co53 : Value).ownBlock) (.slice Ao53 t353.length co53) t353 t375 t377 t378 w _ ?side1 ?side2 A36.out).mono ?_); (case side1 => exact laws_FnExactDiffParts.s1 HB.out); (case side2 => exact Kd.R_tight rfl HO355.out); rintro e w68 ⟨rfl, hy0, hb, hkp⟩; refine ⟨_, rfl, ?_⟩; have n0_ := Aside0.mk (Kd.R_mono (ok' := fun k_ => some k_ ≠ (.slice Ao46 t341.length co46 : Value).ownBlock ∧ some k_ ≠ (.slice Ao52 t350.length co52 : Value).ownBlock ∧ some k_ ≠ (.slice Ao53 t353.length co53 : Value).ownBlock ∧ some k_ ≠ (.slice Ao59 t363.length co59 : Value).ownBlock ∧ some k_ ≠ (.slice Ao62 t367.length co62 : Value).ownBlock) (Kd.R_keptB (HO340.out) hkp (fun k_ hk_ hs_ => (hk_.2.2.1) hs_)) (fun k_ hk_ => ⟨hk_.1.1, hk_.1.2.1, hk_.1.2.2.1, hk_.1.2.2.2.1, hk_.1.2.2.2.2⟩)); have n1_ := Aside0.mk (Kd.R_mono (ok' := fun k_ => some k_ ≠ (.slice Ao45 t338.length co45 : Value).ownBlock ∧ some k_ ≠ (.slice Ao52 t350.length co52 : Value).ownBlock ∧ some k_ ≠ (.slice Ao53 t353.length co53 : Value).ownBlock ∧ some k_ ≠ (.slice Ao59 t363.length co59 : Value).ownBlock ∧ some k_ ≠ (.slice Ao62 t367.length co62 : Value).ownBlock) (Kd.R_keptB (HO343.out) hkp (fun k_ hk_ hs_ => (hk_.2.2.1) hs_)) (fun k_ hk_ => ⟨hk_.1.1, hk_.1.2.1, hk_.1.2.2.1, hk_.1.2.2.2.1, hk_.1.2.2.2.2⟩)); have n2_ := Aside0.mk (Kd.R_mono (ok' := fun k_ => some k_ ≠ (.slice Ao54 t356.length co54 : Value).ownBlock ∧ some k_ ≠ (.slice Ao65 t371.length co65 : Value).ownBlock) (Kd.R_keptB ((Kd.R_apart' HO346.out (Kd.R_typed HO355.out) (by decide))) hkp (fun k_ hk_ hs_ => (hk_.2) hs_)) (fun k_ hk_ => ⟨hk_.1.1.1, hk_.1.1.2⟩)); have n3_ := Aside0.mk (Kd.R_mono (ok' := fun k_ => some k_ ≠ (.slice Ao56 t359.length co56 : Value).ownBlock) (Kd.R_keptB ((Kd.R_apart' HO349.out (Kd.R_typed HO355.out) (by decide))) hkp (fun k_ hk_ hs_ => (hk_.2) hs_)) (fun k_ hk_ => hk_.1.1)); have n4_ := Aside0.mk (Kd.R_mono (ok' := fun k_ => some k_ ≠ (.slice Ao45 t338.length co45 : Value).ownBlock ∧ some k_ ≠ (.slice Ao46 t341.length co46 : Value).ownBlock ∧ some k_ ≠ (.slice Ao53 t353.length co53 : Value).ownBlock ∧ some k_ ≠ (.slice Ao59 t363.length co59 : Value).ownBlock ∧ some k_ ≠ (.slice Ao62 t367.length co62 : Value).ownBlock) (Kd.R_keptB (HO352.out) hkp (fun k_ hk_ hs_ => (hk_.1.1.2) hs_)) (fun k_ hk_ => ⟨hk_.1.1.1.1.1.2, hk_.1.1.1.1.2, hk_.1.1.1.2, hk_.1.1.2, hk_.1.2⟩)); have n5_ := Aside0.mk (Kd.R_reok rfl hy0 (fun k_ e_ => HO355.out.1 k_ e_)); have n6_ := Aside0.mk (Kd.R_mono (ok' := fun k_ => some k_ ≠ (.slice Ao47 t344.length co47 : Value).ownBlock ∧ some k_ ≠ (.slice Ao65 t371.length co65 : Value).ownBlock) (Kd.R_keptB ((Kd.R_apart' HO358.out (Kd.R_typed HO355.out) (by decide))) hkp (fun k_ hk_ hs_ => (hk_.2) hs_)) (fun k_ hk_ => ⟨hk_.1.1.1, hk_.1.1.2⟩)); have n7_ := Aside0.mk (Kd.R_mono (ok' := fun k_ => some k_ ≠ (.slice Ao57 t347.length co57 : Value).ownBlock) (Kd.R_keptB ((Kd.R_apart' HO361.out (Kd.R_typed HO355.out) (by decide))) hkp (fun k_ hk_ hs_ => (hk_.2) hs_)) (fun k_ hk_ => hk_.1.1)); have n8_ := Aside0.mk (Kd.R_mono (ok' := fun k_ => some k_ ≠ (.slice Ao45 t338.length co45 : Value).ownBlock ∧ some k_ ≠ (.slice Ao46 t341.length co46 : Value).ownBlock ∧ some k_ ≠ (.slice Ao52 t350.length co52 : Value).ownBlock ∧ some k_ ≠ (.slice Ao53 t353.length co53 : Value).ownBlock ∧ some k_ ≠ (.slice Ao62 t367.length co62 : Value).ownBlock) (Kd.R_keptB (HO365.out) hkp (fun k_ hk_ hs_ => (hk_.2.2.2.1) hs_)) (fun k_ hk_ => ⟨hk_.1.1, hk_.1.2.1, hk_.1.2.2.1, hk_.1.2.2.2.1, hk_.1.2.2.2.2⟩)); have n9_ := Aside0.mk (Kd.R_mono (ok' := fun k_ => some k_ ≠ (.slice Ao45 t338.length co45 : Value).ownBlock ∧ some k_ ≠ (.slice Ao46 t341.length co46 : Value).ownBlock ∧ some k_ ≠ (.slice Ao52 t350.length co52 : Value).ownBlock ∧ some k_ ≠ (.slice Ao53 t353.length co53 : Value).ownBlock ∧ some k_ ≠ (.slice Ao59 t363.length co59 : Value).ownBlock) (Kd.R_keptB (HO369.out) hkp (fun k_ hk_ hs_ => (hk_.2.2.2.1) hs_)) (fun k_ hk_ => ⟨hk_.1.1, hk_.1.2.1, hk_.1.2.2.1, hk_.1.2.2.2.1, hk_.1.2.2.2.2⟩)); have n10_ := Aside0.mk (Kd.R_mono (ok' := fun k_ => some k_ ≠ (.slice Ao47 t344.length co47 : Value).ownBlock ∧ some k_ ≠ (.slice Ao54 t356.length co54 : Value).ownBlock) (Kd.R_keptB ((Kd.R_apart' HO373.out (Kd.R_typed HO355.out) (by decide))) hkp (fun k_ hk_ hs_ => (hk_.2) hs_)) (fun k_ hk_ => ⟨hk_.1.1.1, hk_.1.1.2⟩)); have n11_ := Aside0.mk (hb); clear HO340; clear HO343; clear HO346; clear HO349; clear HO352; clear HO355; clear HO358; clear HO361; clear HO365; clear HO369; clear HO373; clear HB; have HO340 := n0_; have HO343 := n1_; have HO346 := n2_; have HO349 := n3_; have HO352 := n4_; have HO355 := n5_; have HO358 := n6_; have HO361 := n7_; have HO365 := n8_; have HO369 := n9_; have HO373 := n10_; have HB := n11_; clear n0_ n1_ n2_ n3_ n4_ n5_ n6_ n7_ n8_ n9_ n10_ n11_; (try clear hb); (try clear hkp); (try clear hy0)) | ((with_reducible refine gate_callee (f := 45) rfl ?_); refine gsl (some 76) rfl Try.func45 #[.slice Ao54 t356.length co54, .int .i64 t377] rfl ?_; (with_reducible refine (laws_markIntervalS.calls k (fun k_ => some k_ = (.slice Ao54 t356.length co54 : Value).ownBlock) (.slice Ao54 t356.length co54) t356 t377 t379 t380 w _ ?side1 ?side2 A37.out).mono ?_); (case side1 => exact laws_FnExactDiffParts.s1 HB.out); (case side2 => exact Kd.R_tight rfl HO358.out); rintro e w69 ⟨rfl, hy0, hb, hkp⟩; refine ⟨_, rfl, ?_⟩; have n0_ := Aside0.mk (Kd.R_mono (ok' := fun k_ => some k_ ≠ (.slice Ao46 t341.length co46 : Value).ownBlock ∧ some k_ ≠ (.slice Ao52 t350.length co52 : Value).ownBlock ∧ some k_ ≠ (.slice Ao53 t353.length co53 : Value).ownBlock ∧ some k_ ≠ (.slice Ao59 t363.length co59 : Value).ownBlock ∧ some k_ ≠ (.slice Ao62 t367.length co62 : Value).ownBlock) (Kd.R_keptB ((Kd.R_apart' HO340.out (Kd.R_typed HO358.out) (by decide))) hkp (fun k_ hk_ hs_ => (hk_.2) hs_)) (fun k_ hk_ => ⟨hk_.1.1.1, hk_.1.1.2.1, hk_.1.1.2.2.1, hk_.1.1.2.2.2.1, hk_.1.1.2.2.2.2⟩)); have n1_ := Aside0.mk (Kd.R_mono (ok' := fun k_ => some k_ ≠ (.slice Ao45 t338.length co45 : Value).ownBlock ∧ some k_ ≠ (.slice Ao52 t350.length co52 : Value).ownBlock ∧ some k_ ≠ (.slice Ao53 t353.length co53 : Value).ownBlock ∧ some k_ ≠ (.slice Ao59 t363.length co59 : Value).ownBlock ∧ some k_ ≠ (.slice Ao62 t367.length co62 : Value).ownBlock) (Kd.R_keptB ((Kd.R_apart' HO343.out (Kd.R_typed HO358.out) (by decide))) hkp (fun k_ hk_ hs_ => (hk_.2) hs_)) (fun k_ hk_ => ⟨hk_.1.1.1, hk_.1.1.2.1, hk_.1.1.2.2.1, hk_.1.1.2.2.2.1, hk_.1.1.2.2.2.2⟩)); have n2_ := Aside0.mk (Kd.R_mono (ok' := fun k_ => some k_ ≠ (.slice Ao54 t356.length co54 : Value).ownBlock ∧ some k_ ≠ (.slice Ao65 t371.length co65 : Value).ownBlock) (Kd.R_keptB (HO346.out) hkp (fun k_ hk_ hs_ => (hk_.1) hs_)) (fun k_ hk_ => ⟨hk_.1.1, hk_.1.2⟩)); have n3_ := Aside0.mk (Kd.R_mono (ok' := fun k_ => some k_ ≠ (.slice Ao56 t359.length co56 : Value).ownBlock) (Kd.R_keptB ((Kd.R_apart' HO349.out (Kd.R_typed HO358.out) (by decide))) hkp (fun k_ hk_ hs_ => (hk_.2) hs_)) (fun k_ hk_ => hk_.1.1)); have n4_ := Aside0.mk (Kd.R_mono (ok' := fun k_ => some k_ ≠ (.slice Ao45 t338.length co45 : Value).ownBlock ∧ some k_ ≠ (.slice Ao46 t341.length co46 : Value).ownBlock ∧ some k_ ≠ (.slice Ao53 t353.length co53 : Value).ownBlock ∧ some k_ ≠ (.slice Ao59 t363.length co59 : Value).ownBlock ∧ some k_ ≠ (.slice Ao62 t367.length co62 : Value).ownBlock) (Kd.R_keptB ((Kd.R_apart' HO352.out (Kd.R_typed HO358.out) (by decide))) hkp (fun k_ hk_ hs_ => (hk_.2) hs_)) (fun k_ hk_ => ⟨hk_.1.1.1, hk_.1.1.2.1, hk_.1.1.2.2.1, hk_.1.1.2.2.2.1, hk_.1.1.2.2.2.2⟩)); have n5_ := Aside0.mk (Kd.R_mono (ok' := fun k_ => some k_ ≠ (.slice Ao45 t338.length co45 : Value).ownBlock ∧ some k_ ≠ (.slice Ao46 t341.length co46 : Value).ownBlock ∧ some k_ ≠ (.slice Ao52 t350.length co52 : Value).ownBlock ∧ some k_ ≠ (.slice Ao59 t363.length co59 : Value).ownBlock ∧ some k_ ≠ (.slice Ao62 t367.length co62 : Value).ownBlock) (Kd.R_keptB ((Kd.R_apart' HO355.out (Kd.R_typed HO358.out) (by decide))) hkp (fun k_ hk_ hs_ => (hk_.2) hs_)) (fun k_ hk_ => ⟨hk_.1.1.1, hk_.1.1.2.1, hk_.1.1.2.2.1, hk_.1.1.2.2.2.1, hk_.1.1.2.2.2.2⟩)); have n6_ := Aside0.mk (Kd.R_reok rfl hy0 (fun k_ e_ => HO358.out.1 k_ e_)); have n7_ := Aside0.mk (Kd.R_mono (ok' := fun k_ => some k_ ≠ (.slice Ao57 t347.length co57 : Value).ownBlock) (Kd.R_keptB ((Kd.R_apart' HO361.out (Kd.R_typed HO358.out) (by decide))) hkp (fun k_ hk_ hs_ => (hk_.2) hs_)) (fun k_ hk_ => hk_.1.1)); have n8_ := Aside0.mk (Kd.R_mono (ok' := fun k_ => some k_ ≠ (.slice Ao45 t338.length co45 : Value).ownBlock ∧ some k_ ≠ (.slice Ao46 t341.length co46 : Value).ownBlock ∧ some k_ ≠ (.slice Ao52 t350.length co52 : Value).ownBlock ∧ some k_ ≠ (.slice Ao53 t353.length co53 : Value).ownBlock ∧ some k_ ≠ (.slice Ao62 t367.length co62 : Value).ownBlock) (Kd.R_keptB ((Kd.R_apart' HO365.out (Kd.R_typed HO358.out) (by decide))) hkp (fun k_ hk_ hs_ => (hk_.2) hs_)) (fun k_ hk_ => ⟨hk_.1.1.1, hk_.1.1.2.1, hk_.1.1.2.2.1, hk_.1.1.2.2.2.1, hk_.1.1.2.2.2.2⟩)); have n9_ := Aside0.mk (Kd.R_mono (ok' := fun k_ => some k_ ≠ (.slice Ao45 t338.length co45 : Value).ownBlock ∧ some k_ ≠ (.slice Ao46 t341.length co46 : Value).ownBlock ∧ some k_ ≠ (.slice Ao52 t350.length co52 : Value).ownBlock ∧ some k_ ≠ (.slice Ao53 t353.length co53 : Value).ownBlock ∧ some k_ ≠ (.slice Ao59 t363.length co59 : Value).ownBlock) (Kd.R_keptB ((Kd.R_apart' HO369.out (Kd.R_typed HO358.out) (by decide))) hkp (fun k_ hk_ hs_ => (hk_.2) hs_)) (fun k_ hk_ => ⟨hk_.1.1.1, hk_.1.1.2.1, hk_.1.1.2.2.1, hk_.1.1.2.2.2.1, hk_.1.1.2.2.2.2⟩)); have n10_ := Aside0.mk (Kd.R_mono (ok' := fun k_ => some k_ ≠ (.slice Ao47 t344.length co47 : Value).ownBlock ∧ some k_ ≠ (.slice Ao54 t356.length co54 : Value).ownBlock) (Kd.R_keptB (HO373.out) hkp (fun k_ hk_ hs_ => (hk_.2) hs_)) (fun k_ hk_ => ⟨hk_.1.1, hk_.1.2⟩)); have n11_ := Aside0.mk (hb); clear HO340; clear HO343; clear HO346; clear HO349; clear HO352; clear HO355; clear HO358; clear HO361; clear HO365; clear HO369; clear HO373; clear HB; have HO340 := n0_; have HO343 := n1_; have HO346 := n2_; have HO349 := n3_; have HO352 := n4_; have HO355 := n5_; have HO358 := n6_; have HO361 := n7_; have HO365 := n8_; have HO369 := n9_; have HO373 := n10_; have HB := n11_; clear n0_ n1_ n2_ n3_ n4_ n5_ n6_ n7_ n8_ n9_ n10_ n11_; (try clear hb); (try clear hkp); (try clear hy0)))
                (try simp only [Act.put, List.setIfInBounds_toArray, List.set_cons_zero, List.set_cons_succ])
                go_cut [84] (fun v84 wc => ∃ (kq : Nat) (x84_37 : Bool), v84 = .bool x84_37 ∧ Aside0 (laws_FnExactDiffParts.j0 kq l0 l1 l2 t347 t359 x84_37 = some r) ∧ Aside0 (kq ≤ k) ∧ Aside0 (Kd.R (Kd.int .i64) 3 wc w.heap.size (fun k_ => some k_ ≠ ((.slice Ao56 t359.length co56) : Value).ownBlock) (.slice Ao57 t347.length co57) t347) ∧ Aside0 (Kd.R (Kd.int .i64) 3 wc w.heap.size (fun k_ => some k_ ≠ ((.slice Ao57 t347.length co57) : Value).ownBlock) (.slice Ao56 t359.length co56) t359) ∧ Aside0 (Below w.heap.size w wc))
                case first =>
                  have H := HC38.out
                  clear HC38
                  by_cases c70 : t379 < 0
                  · rw [if_pos c70] at H
                    have c70b0 : decide (t379 < 0) = true := decide_eq_true c70
                    clear c70
                    (first | rw [c70b0] | (simp only [i64_w, i32_w]; rw [c70b0]) | skip)
                    have H' := Aside0.mk H
                    clear H
                    go_wp2
                    go_meet
                    case rel => exact ⟨_, (true), (by first | rfl | (simp; done) | (simp [*]; done) | (simp [bne_nil_, beq_nil_]; done)), H', ⟨by first | omega | exact Nat.le_refl _⟩, ⟨by (with_reducible repeat (first | apply Kd.R_alloc | apply Kd.R_drewN | apply Kd.R_drew)); exact HO349.out⟩, ⟨by (with_reducible repeat (first | apply Kd.R_alloc | apply Kd.R_drewN | apply Kd.R_drew)); exact HO361.out⟩, ⟨bp HB.out⟩⟩
                  · rw [if_neg c70] at H
                    have c70b0 : decide (t379 < 0) = false := decide_eq_false c70
                    clear c70
                    (first | rw [c70b0] | (simp only [i64_w, i32_w]; rw [c70b0]) | skip)
                    replace H := Option.bind_eq_some_iff.mp H
                    obtain ⟨t381, A710, H⟩ := H
                    replace H : (laws_FnExactDiffParts.j0 k l0 l1 l2 t347 t359 (!t381)) = some r := H
                    have A71 := Aside0.mk A710
                    clear A710
                    have H' := Aside0.mk H
                    clear H
                    go_wp2_with (first | (go_at_call 43; (with_reducible refine (laws_eqIntS.calls k _ _ t359 _ _ t347 t381 _ ?side1 ?side2 ?side3 ?side4 A71.out).mono ?_); (case side1 => exact laws_FnExactDiffParts.s0 HO361.out); (case side2 => exact (Kd.R_reads' HO361.out).2.1); (case side3 => exact laws_FnExactDiffParts.s0 HO349.out); (case side4 => exact (Kd.R_reads' HO349.out).2.1); rintro e w' ⟨rfl, ⟨nd, rfl⟩⟩))
                    go_meet
                    case rel => exact ⟨_, (!t381), (by first | rfl | (simp; done) | (simp [*]; done) | (simp [bne_nil_, beq_nil_]; done)), H', ⟨by first | omega | exact Nat.le_refl _⟩, ⟨by (with_reducible repeat (first | apply Kd.R_alloc | apply Kd.R_drewN | apply Kd.R_drew)); exact HO349.out⟩, ⟨by (with_reducible repeat (first | apply Kd.R_alloc | apply Kd.R_drewN | apply Kd.R_drew)); exact HO361.out⟩, ⟨bp HB.out⟩⟩
                case rest =>
                  clear HC38
                  try clear c1
                  try clear c2
                  try clear p2
                  try clear c3
                  try clear c4
                  try clear c5
                  try clear c5b0
                  try clear p6
                  try clear c7
                  try clear c8
                  try clear c8b0
                  try clear c12
                  try clear c12b0
                  try clear c25
                  try clear c28
                  try clear c31
                  try clear c33
                  try clear c34
                  try clear c41
                  try clear c42
                  try clear c43
                  try clear c44
                  try clear c45
                  try clear c48
                  try clear c49
                  try clear p64
                  try clear c70
                  try clear c70b0
                  obtain ⟨kq, x84_37, rfl, HA, HJ37, HO_8, HO_12, HB⟩ := hcut
                  cases kq with
                  | zero => exact absurd HA.out (by simp [laws_FnExactDiffParts.j0])
                  | succ kj37 =>
                    have H := HA.out
                    clear HA
                    simp only [laws_FnExactDiffParts.j0] at H
                    by_cases c72 : x84_37 = true
                    · subst c72
                      have H1 : (some false) = some r := by rw [if_pos rfl] at H; exact H
                      clear H
                      have H := H1
                      clear H1
                      obtain rfl := Option.some.inj H
                      exact absurd hrt.out (by simp)
                    · replace c72 := Bool.eq_false_iff.mpr c72
                      subst c72
                      have H1 : ((laws_markIntS.f kj37 t359 1).bind fun bt382 => ((laws_heldIntS.f kj37 bt382.2 1).bind fun t384 => (if t384 < 0 then (some false) else (if t384 = bt382.1 then ((laws_toPairS.f kj37 l0).bind fun t385 => ((laws_toPairS.f kj37 l1).bind fun t388 => ((laws_toIntervalS.f kj37 l2).bind fun t391 => ((impl_DiffParts.f kj37 t385 t388 t391).bind fun t394 => ((laws_eqIntS.f kj37 t394 t347).bind fun t397 => (if t397 = true then ((laws_heldIntS.f kj37 bt382.2 1).bind fun t398 => (if t398 < 0 then (some false) else (if t398 = bt382.1 then (some true) else (some false)))) else (some false))))))) else (some false))))) = some r := by rw [if_neg (show ¬ (false = true) by decide)] at H; exact H
                      clear H
                      have H := H1
                      clear H1
                      replace H := Option.bind_eq_some_iff.mp H
                      obtain ⟨⟨t382, t383⟩, A730, H⟩ := H
                      replace H : ((laws_heldIntS.f kj37 t383 1).bind fun t384 => (if t384 < 0 then (some false) else (if t384 = t382 then ((laws_toPairS.f kj37 l0).bind fun t385 => ((laws_toPairS.f kj37 l1).bind fun t388 => ((laws_toIntervalS.f kj37 l2).bind fun t391 => ((impl_DiffParts.f kj37 t385 t388 t391).bind fun t394 => ((laws_eqIntS.f kj37 t394 t347).bind fun t397 => (if t397 = true then ((laws_heldIntS.f kj37 t383 1).bind fun t398 => (if t398 < 0 then (some false) else (if t398 = t382 then (some true) else (some false)))) else (some false))))))) else (some false)))) = some r := H
                      have A73 := Aside0.mk A730
                      clear A730
                      replace H := Option.bind_eq_some_iff.mp H
                      obtain ⟨t384, A740, H⟩ := H
                      replace H : (if t384 < 0 then (some false) else (if t384 = t382 then ((laws_toPairS.f kj37 l0).bind fun t385 => ((laws_toPairS.f kj37 l1).bind fun t388 => ((laws_toIntervalS.f kj37 l2).bind fun t391 => ((impl_DiffParts.f kj37 t385 t388 t391).bind fun t394 => ((laws_eqIntS.f kj37 t394 t347).bind fun t397 => (if t397 = true then ((laws_heldIntS.f kj37 t383 1).bind fun t398 => (if t398 < 0 then (some false) else (if t398 = t382 then (some true) else (some false)))) else (some false))))))) else (some false))) = some r := H
                      have A74 := Aside0.mk A740
                      clear A740
                      by_cases c75 : t384 < 0
                      · rw [if_pos c75] at H
                        have c75b0 : decide (t384 < 0) = true := decide_eq_true c75
                        clear c75
                        obtain rfl := Option.some.inj H
                        exact absurd hrt.out (by simp)
                      · rw [if_neg c75] at H
                        have c75b0 : decide (t384 < 0) = false := decide_eq_false c75
                        clear c75
                        by_cases c76 : t384 = t382
                        · rw [if_pos c76] at H
                          have c76b0 : (t384 == t382) = true := beq_iff_eq.mpr c76
                          have c76b1 : (t384 != t382) = false := bne_eq_false_iff_eq.mpr c76
                          clear c76
                          replace H := Option.bind_eq_some_iff.mp H
                          obtain ⟨t385, A770, H⟩ := H
                          replace H : ((laws_toPairS.f kj37 l1).bind fun t388 => ((laws_toIntervalS.f kj37 l2).bind fun t391 => ((impl_DiffParts.f kj37 t385 t388 t391).bind fun t394 => ((laws_eqIntS.f kj37 t394 t347).bind fun t397 => (if t397 = true then ((laws_heldIntS.f kj37 t383 1).bind fun t398 => (if t398 < 0 then (some false) else (if t398 = t382 then (some true) else (some false)))) else (some false)))))) = some r := H
                          have A77 := Aside0.mk A770
                          clear A770
                          replace H := Option.bind_eq_some_iff.mp H
                          obtain ⟨t388, A780, H⟩ := H
                          replace H : ((laws_toIntervalS.f kj37 l2).bind fun t391 => ((impl_DiffParts.f kj37 t385 t388 t391).bind fun t394 => ((laws_eqIntS.f kj37 t394 t347).bind fun t397 => (if t397 = true then ((laws_heldIntS.f kj37 t383 1).bind fun t398 => (if t398 < 0 then (some false) else (if t398 = t382 then (some true) else (some false)))) else (some false))))) = some r := H
                          have A78 := Aside0.mk A780
                          clear A780
                          replace H := Option.bind_eq_some_iff.mp H
                          obtain ⟨t391, A790, H⟩ := H
                          replace H : ((impl_DiffParts.f kj37 t385 t388 t391).bind fun t394 => ((laws_eqIntS.f kj37 t394 t347).bind fun t397 => (if t397 = true then ((laws_heldIntS.f kj37 t383 1).bind fun t398 => (if t398 < 0 then (some false) else (if t398 = t382 then (some true) else (some false)))) else (some false)))) = some r := H
                          have A79 := Aside0.mk A790
                          clear A790
                          replace H := Option.bind_eq_some_iff.mp H
                          obtain ⟨t394, A800, H⟩ := H
                          replace H : ((laws_eqIntS.f kj37 t394 t347).bind fun t397 => (if t397 = true then ((laws_heldIntS.f kj37 t383 1).bind fun t398 => (if t398 < 0 then (some false) else (if t398 = t382 then (some true) else (some false)))) else (some false))) = some r := H
                          have A80 := Aside0.mk A800
                          clear A800
                          replace H := Option.bind_eq_some_iff.mp H
                          obtain ⟨t397, A810, H⟩ := H
                          replace H : (if t397 = true then ((laws_heldIntS.f kj37 t383 1).bind fun t398 => (if t398 < 0 then (some false) else (if t398 = t382 then (some true) else (some false)))) else (some false)) = some r := H
                          have A81 := Aside0.mk A810
                          clear A810
                          by_cases c82 : t397 = true
                          · subst c82
                            have H1 : ((laws_heldIntS.f kj37 t383 1).bind fun t398 => (if t398 < 0 then (some false) else (if t398 = t382 then (some true) else (some false)))) = some r := by rw [if_pos rfl] at H; exact H
                            clear H
                            have H := H1
                            clear H1
                            replace H := Option.bind_eq_some_iff.mp H
                            obtain ⟨t398, A830, H⟩ := H
                            replace H : (if t398 < 0 then (some false) else (if t398 = t382 then (some true) else (some false))) = some r := H
                            have A83 := Aside0.mk A830
                            clear A830
                            by_cases c84 : t398 < 0
                            · rw [if_pos c84] at H
                              have c84b0 : decide (t398 < 0) = true := decide_eq_true c84
                              clear c84
                              obtain rfl := Option.some.inj H
                              exact absurd hrt.out (by simp)
                            · rw [if_neg c84] at H
                              have c84b0 : decide (t398 < 0) = false := decide_eq_false c84
                              clear c84
                              by_cases c85 : t398 = t382
                              · rw [if_pos c85] at H
                                have c85b0 : (t398 == t382) = true := beq_iff_eq.mpr c85
                                have c85b1 : (t398 != t382) = false := bne_eq_false_iff_eq.mpr c85
                                clear c85
                                obtain rfl := Option.some.inj H
                                go_wp2_with (first | ((with_reducible refine gate_callee (f := 46) rfl ?_); refine gsl (some 87) rfl Try.func46 #[.slice Ao56 t359.length co56, .int .i64 1] rfl ?_; (with_reducible refine (laws_markIntS.calls kj37 (fun k_ => some k_ = (.slice Ao56 t359.length co56 : Value).ownBlock) (.slice Ao56 t359.length co56) t359 1 t382 t383 w _ ?side1 ?side2 A73.out).mono ?_); (case side1 => exact laws_FnExactDiffParts.s1 HB.out); (case side2 => exact Kd.R_tight rfl HO_12.out); rintro e w86 ⟨rfl, hy0, hb, hkp⟩; refine ⟨_, rfl, ?_⟩; have n0_ := Aside0.mk (Kd.R_mono (ok' := fun k_ => some k_ ≠ (.slice Ao56 t359.length co56 : Value).ownBlock) (Kd.R_keptB (HO_8.out) hkp (fun k_ hk_ hs_ => (hk_) hs_)) (fun k_ hk_ => hk_.1)); have n1_ := Aside0.mk (Kd.R_reok rfl hy0 (fun k_ e_ => HO_12.out.1 k_ e_)); have n2_ := Aside0.mk (hb); clear HO_8; clear HO_12; clear HB; have HO_8 := n0_; have HO_12 := n1_; have HB := n2_; clear n0_ n1_ n2_; (try clear hb); (try clear hkp); (try clear hy0)) | ((with_reducible refine gate_callee (f := 47) rfl ?_); refine goesL_ (some 90) rfl rfl Try.func47 (by kernel_rfl) rfl #[.slice Ao56 t383.length co56, .int .i64 1] rfl (by (try simp only [List.map_toArray, List.map_cons, List.map_nil]); first | done | (rw [show t383.length = t359.length from (Kd.R_reads' HO_12.out).1.symm] <;> rfl) | rfl | (simp only [List.length_drop, List.length_take]; rfl)) ?_; (with_reducible refine (laws_heldIntS.calls kj37 _ _ t383 1 t384 _ ?side1 ?side2 A74.out).mono ?_); (case side1 => exact laws_FnExactDiffParts.s0 HO_12.out); (case side2 => rw [show t383.length = t359.length from (Kd.R_reads' HO_12.out).1.symm]; exact (Kd.R_reads' HO_12.out).2.1); rintro e w' ⟨rfl, ⟨nd, rfl⟩⟩; refine ⟨_, rfl, ?_⟩) | ((with_reducible refine gate_callee (f := 28) rfl ?_); refine gsl (some 97) rfl Try.func28 #[.slice A0 l0.length c0] rfl ?_; (with_reducible refine (laws_toPairS.calls kj37 _ _ l0 t385 _ ?side1 ?side2 A77.out).mono ?_); (case side1 => repeat (first | exact (Kd.C_below HR0.out (bp HB.out)) | (with_reducible refine Kd.C_alloc ?_ _) | (with_reducible refine Kd.C_drewN ?_ _) | (with_reducible refine Kd.C_drew ?_))); (case side2 => exact HC0.out); rintro e w87 ⟨v386, rfl, ho0, hb⟩; refine ⟨_, rfl, ?_⟩; have n0_ := Aside0.mk (Kd.R_below (kr HO_8.out) hb); have n1_ := Aside0.mk (Kd.R_below (kr HO_12.out) hb); have n2_ := Aside0.mk (Kd.R_lower ho0 (below_size (bp HB.out))); have n3_ := an0 HB hb; clear HO_8; clear HO_12; clear HB; have HO_8 := n0_; have HO_12 := n1_; have HO387 := n2_; have HB := n3_; clear n0_ n1_ n2_ n3_; (try clear hb); (try clear hb2); (try clear hk); (try clear hi); (try clear ho0)) | ((with_reducible refine gate_callee (f := 28) rfl ?_); refine gsl (some 99) rfl Try.func28 #[.slice A1 l1.length c1] rfl ?_; (with_reducible refine (laws_toPairS.calls kj37 _ _ l1 t388 _ ?side1 ?side2 A78.out).mono ?_); (case side1 => exact cc (Kd.C_below HR1.out HB.out)); (case side2 => exact HC1.out); rintro e w88 ⟨v389, rfl, ho0, hb⟩; refine ⟨_, rfl, ?_⟩; have n0_ := Aside0.mk (Kd.R_below (kr HO_8.out) hb); have n1_ := Aside0.mk (Kd.R_below (kr HO_12.out) hb); have n2_ := Aside0.mk (Kd.R_elder' (kr HO387.out) (Kd.R_base ho0) hb); have n3_ := Aside0.mk (Kd.R_lower (Kd.R_new' ho0 (Kd.R_lt (kr HO387.out))) (below_size (bp HB.out))); have n4_ := an0 HB hb; clear HO_8; clear HO_12; clear HO387; clear HB; have HO_8 := n0_; have HO_12 := n1_; have HO387 := n2_; have HO390 := n3_; have HB := n4_; clear n0_ n1_ n2_ n3_ n4_; (try clear hb); (try clear hb2); (try clear hk); (try clear hi); (try clear ho0)) | ((with_reducible refine gate_callee (f := 42) rfl ?_); refine gsl (some 101) rfl Try.func42 #[.slice A2 l2.length c2] rfl ?_; (with_reducible refine (laws_toIntervalS.calls kj37 _ _ l2 t391 _ ?side1 ?side2 A79.out).mono ?_); (case side1 => exact cc (Kd.C_below HR2.out HB.out)); (case side2 => exact HC2.out); rintro e w89 ⟨v392, rfl, ho0, hb⟩; refine ⟨_, rfl, ?_⟩; have n0_ := Aside0.mk (Kd.R_below (kr HO_8.out) hb); have n1_ := Aside0.mk (Kd.R_below (kr HO_12.out) hb); have n2_ := Aside0.mk (Kd.R_below (kr HO387.out) hb); have n3_ := Aside0.mk (Kd.R_below (kr HO390.out) hb); have n4_ := Aside0.mk (Kd.R_lower ho0 (below_size (bp HB.out))); have n5_ := an0 HB hb; clear HO_8; clear HO_12; clear HO387; clear HO390; clear HB; have HO_8 := n0_; have HO_12 := n1_; have HO387 := n2_; have HO390 := n3_; have HO393 := n4_; have HB := n5_; clear n0_ n1_ n2_ n3_ n4_ n5_; (try clear hb); (try clear hb2); (try clear hk); (try clear hi); (try clear ho0); obtain ⟨Ao90, co90, eo90⟩ := Kd.R_slice HO387.out; subst eo90; obtain ⟨Ao91, co91, eo91⟩ := Kd.R_slice HO390.out; subst eo91; obtain ⟨Ao92, co92, eo92⟩ := Kd.R_slice HO393.out; subst eo92) | ((with_reducible refine gate_callee (f := 49) rfl ?_); refine gsl (some 102) rfl Try.func49 #[.slice Ao90 t385.length co90, .slice Ao91 t388.length co91, .slice Ao92 t391.length co92] rfl ?_; (with_reducible refine (impl_DiffParts.calls kj37 _ _ t385 _ _ t388 _ _ t391 t394 _ ?side1 ?side2 ?side3 ?side4 ?side5 ?side6 A80.out).mono ?_); (case side1 => exact laws_FnExactDiffParts.s0 HO387.out); (case side2 => exact (Kd.R_reads' HO387.out).2.1); (case side3 => exact laws_FnExactDiffParts.s0 HO390.out); (case side4 => exact (Kd.R_reads' HO390.out).2.1); (case side5 => exact laws_FnExactDiffParts.s0 HO393.out); (case side6 => exact (Kd.R_reads' HO393.out).2.1); rintro e w93 ⟨v395, rfl, ho0, hb⟩; refine ⟨_, rfl, ?_⟩; have n0_ := Aside0.mk (Kd.R_elder' (kr HO_8.out) (Kd.R_base ho0) hb); have n1_ := Aside0.mk (Kd.R_elder' (kr HO_12.out) (Kd.R_base ho0) hb); have n2_ := Aside0.mk (Kd.R_below (kr HO387.out) hb); have n3_ := Aside0.mk (Kd.R_below (kr HO390.out) hb); have n4_ := Aside0.mk (Kd.R_below (kr HO393.out) hb); have n5_ := Aside0.mk (Kd.R_lower (Kd.R_new' (Kd.R_new' ho0 (Kd.R_lt (kr HO_8.out))) (Kd.R_lt (kr HO_12.out))) (below_size (bp HB.out))); have n6_ := an0 HB hb; clear HO_8; clear HO_12; clear HO387; clear HO390; clear HO393; clear HB; have HO_8 := n0_; have HO_12 := n1_; have HO387 := n2_; have HO390 := n3_; have HO393 := n4_; have HO396 := n5_; have HB := n6_; clear n0_ n1_ n2_ n3_ n4_ n5_ n6_; (try clear hb); (try clear hb2); (try clear hk); (try clear hi); (try clear ho0); obtain ⟨Ao94, co94, eo94⟩ := Kd.R_slice HO396.out; subst eo94) | ((with_reducible refine gate_callee (f := 43) rfl ?_); refine gsl (some 105) rfl Try.func43 #[.slice Ao94 t394.length co94, .slice Ao57 t347.length co57] rfl ?_; (with_reducible refine (laws_eqIntS.calls kj37 _ _ t394 _ _ t347 true _ ?side1 ?side2 ?side3 ?side4 A81.out).mono ?_); (case side1 => exact laws_FnExactDiffParts.s0 HO396.out); (case side2 => exact (Kd.R_reads' HO396.out).2.1); (case side3 => exact laws_FnExactDiffParts.s0 HO_8.out); (case side4 => exact (Kd.R_reads' HO_8.out).2.1); rintro e w' ⟨rfl, ⟨nd, rfl⟩⟩; refine ⟨_, rfl, ?_⟩) | ((with_reducible refine gate_callee (f := 47) rfl ?_); refine goesL_ (some 109) rfl rfl Try.func47 (by kernel_rfl) rfl #[.slice Ao56 t383.length co56, .int .i64 1] rfl (by (try simp only [List.map_toArray, List.map_cons, List.map_nil]); first | done | (rw [show t383.length = t359.length from (Kd.R_reads' HO_12.out).1.symm] <;> rfl) | rfl | (simp only [List.length_drop, List.length_take]; rfl)) ?_; (with_reducible refine (laws_heldIntS.calls kj37 _ _ t383 1 t398 _ ?side1 ?side2 A83.out).mono ?_); (case side1 => exact laws_FnExactDiffParts.s0 HO_12.out); (case side2 => rw [show t383.length = t359.length from (Kd.R_reads' HO_12.out).1.symm]; exact (Kd.R_reads' HO_12.out).2.1); rintro e w' ⟨rfl, ⟨nd, rfl⟩⟩; refine ⟨_, rfl, ?_⟩))
                                go_ret
                                exact ⟨fe, bp HB.out⟩
                              · rw [if_neg c85] at H
                                have c85b0 : (t398 == t382) = false := beq_eq_false_iff_ne.mpr c85
                                have c85b1 : (t398 != t382) = true := bne_iff_ne.mpr c85
                                obtain rfl := Option.some.inj H
                                exact absurd hrt.out (by simp)
                          · replace c82 := Bool.eq_false_iff.mpr c82
                            subst c82
                            have H1 : (some false) = some r := by rw [if_neg (show ¬ (false = true) by decide)] at H; exact H
                            clear H
                            have H := H1
                            clear H1
                            obtain rfl := Option.some.inj H
                            exact absurd hrt.out (by simp)
                        · rw [if_neg c76] at H
                          have c76b0 : (t384 == t382) = false := beq_eq_false_iff_ne.mpr c76
                          have c76b1 : (t384 != t382) = true := bne_iff_ne.mpr c76
                          obtain rfl := Option.some.inj H
                          exact absurd hrt.out (by simp)
              · replace c34 := Bool.eq_false_iff.mpr c34
                subst c34
                have H1 : (some false) = some r := by rw [if_neg (show ¬ (false = true) by decide)] at H; exact H
                clear H
                have H := H1
                clear H1
                obtain rfl := Option.some.inj H
                exact absurd hrt.out (by simp)
            · replace c31 := Bool.eq_false_iff.mpr c31
              subst c31
              have H1 : (some false) = some r := by rw [if_neg (show ¬ (false = true) by decide)] at H; exact H
              clear H
              have H := H1
              clear H1
              obtain rfl := Option.some.inj H
              exact absurd hrt.out (by simp)
          · replace c28 := Bool.eq_false_iff.mpr c28
            subst c28
            have H1 : (some false) = some r := by rw [if_neg (show ¬ (false = true) by decide)] at H; exact H
            clear H
            have H := H1
            clear H1
            obtain rfl := Option.some.inj H
            exact absurd hrt.out (by simp)
        · replace c25 := Bool.eq_false_iff.mpr c25
          subst c25
          have H1 : (some false) = some r := by rw [if_neg (show ¬ (false = true) by decide)] at H; exact H
          clear H
          have H := H1
          clear H1
          obtain rfl := Option.some.inj H
          exact absurd hrt.out (by simp)

end Go.Proofs.Ytfeeifefmenlmaa.PFnExactDiffParts
