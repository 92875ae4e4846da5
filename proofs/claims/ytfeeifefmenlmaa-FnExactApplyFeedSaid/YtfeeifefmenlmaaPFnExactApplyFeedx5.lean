-- Written by a program of this session, in the manner of the kit's print (wip/pp.py): functions and their contracts.
import Derived.Test.YtfeeifefmenlmaaPFnExactApplyFeedx0
import Derived.Test.YtfeeifefmenlmaaPFnExactApplyFeedx2
import Derived.Test.YtfeeifefmenlmaaPFnExactApplyFeedx3
import Derived.Test.YtfeeifefmenlmaaPFnExactApplyFeedx4
namespace Go.Proofs.Ytfeeifefmenlmaa.PFnExactApplyFeed
open Go.RowKit Go.Proofs.YtfeeifefmenlmaaW.PrintWords Go.Proofs.YtfeeifefmenlmaaW.PrintLast Go.Proofs.YtfeeifefmenlmaaW.PrintMore
attribute [local go_sem] binOp_leq_str binOp_gtr_str binOp_geq_str max2_int min2_int max_two min_two max_three min_three max_four min_four   -- for this text's walks alone
set_option linter.unusedVariables false
set_option linter.unusedSimpArgs false

/-! ### spec_ApplyFeed: function 27 -/
mutual
def spec_ApplyFeed.j0 : Nat → List (S29) → List (S75) → Bool → Option ((List (S29)) × Bool)
  | 0, _, _, _ => none
  | k + 1, x0, x1, x17 => if x17 = true then (some ((([] : List (S29))), false)) else ((some (([] : List (S29)) : List (S29))).bind fun y189 => (if y189.length + x0.length < 5864062014805 then (spec_ApplyFeed.l0 k x1 (y189 ++ x0) 0) else (none)))
def spec_ApplyFeed.l0 : Nat → List (S75) → List (S29) → Int → Option ((List (S29)) × Bool)
  | 0, _, _, _ => none
  | k + 1, x1, x6, x7 => if x7 < (x1.length : Int) then (if 0 ≤ x7 then ((spec_PairGet.f k x6 ((rd_T75 x1 x7).f1)).bind fun t196 => (if t196 = ((rd_T75 x1 x7).f2) then ((spec_PairDrop.f k x6 ((rd_T75 x1 x7).f1)).bind fun bt202 => (if ((rd_T75 x1 x7).f3) ≥ 0 then ((spec_PairPut.f k x6 ((rd_T75 x1 x7).f1) ((rd_T75 x1 x7).f3)).bind fun bt209 => (if bt209.2 = true then (spec_ApplyFeed.l0 k x1 bt209.1 (wrap64 (x7 + 1))) else (some ((([] : List (S29))), false)))) else (if bt202.2 = true then (spec_ApplyFeed.l0 k x1 bt202.1 (wrap64 (x7 + 1))) else (some ((([] : List (S29))), false))))) else (some ((([] : List (S29))), false)))) else (none)) else (some (x6, true))
end
def spec_ApplyFeed.f (k : Nat) (l0 : List (S29)) (l1 : List (S75)) : Option ((List (S29)) × Bool) := (spec_PairsValid.f k l0).bind fun t184 => (if t184 = true then ((spec_FeedValid.f k l1).bind fun t185 => (spec_ApplyFeed.j0 k l0 l1 (!t185))) else (spec_ApplyFeed.j0 k l0 l1 true))
theorem spec_ApplyFeed.mono_l : ∀ k, (∀ y0 y1 y2, LeO (spec_ApplyFeed.j0 k y0 y1 y2) (spec_ApplyFeed.j0 (k + 1) y0 y1 y2)) ∧ (∀ y0 y1 y2, LeO (spec_ApplyFeed.l0 k y0 y1 y2) (spec_ApplyFeed.l0 (k + 1) y0 y1 y2))
  | 0 => ⟨fun _ _ _ r h => by simp [spec_ApplyFeed.j0] at h, fun _ _ _ r h => by simp [spec_ApplyFeed.l0] at h⟩
  | k + 1 => by
    obtain ⟨ih0, ih1⟩ := spec_ApplyFeed.mono_l k
    refine ⟨?_, ?_⟩
    · intro y0 y1 y2
      unfold spec_ApplyFeed.j0
      repeat' first
      | (with_reducible exact ih0 _ _ _)
      | (with_reducible exact ih1 _ _ _)
      | (with_reducible exact spec_FeedValid.mono _ _)
      | (with_reducible exact spec_PairDrop.mono _ _ _)
      | (with_reducible exact spec_PairGet.mono _ _ _)
      | (with_reducible exact spec_PairPut.mono _ _ _ _)
      | (with_reducible exact spec_PairsValid.mono _ _)
      | (with_reducible exact LeO.refl _)
      | (with_reducible exact LeO.none _)
      | (with_reducible refine LeO.ite ?_ ?_)
      | (with_reducible refine LeO.bind ?_ (fun _ => ?_))
      | exact ih0 _ _ _
      | exact ih1 _ _ _
      | exact spec_FeedValid.mono _ _
      | exact spec_PairDrop.mono _ _ _
      | exact spec_PairGet.mono _ _ _
      | exact spec_PairPut.mono _ _ _ _
      | exact spec_PairsValid.mono _ _
      | exact LeO.none _
      | refine LeO.ite ?_ ?_
      | refine LeO.bind ?_ (fun _ => ?_)
    · intro y0 y1 y2
      unfold spec_ApplyFeed.l0
      repeat' first
      | (with_reducible exact ih0 _ _ _)
      | (with_reducible exact ih1 _ _ _)
      | (with_reducible exact spec_FeedValid.mono _ _)
      | (with_reducible exact spec_PairDrop.mono _ _ _)
      | (with_reducible exact spec_PairGet.mono _ _ _)
      | (with_reducible exact spec_PairPut.mono _ _ _ _)
      | (with_reducible exact spec_PairsValid.mono _ _)
      | (with_reducible exact LeO.refl _)
      | (with_reducible exact LeO.none _)
      | (with_reducible refine LeO.ite ?_ ?_)
      | (with_reducible refine LeO.bind ?_ (fun _ => ?_))
      | exact ih0 _ _ _
      | exact ih1 _ _ _
      | exact spec_FeedValid.mono _ _
      | exact spec_PairDrop.mono _ _ _
      | exact spec_PairGet.mono _ _ _
      | exact spec_PairPut.mono _ _ _ _
      | exact spec_PairsValid.mono _ _
      | exact LeO.none _
      | refine LeO.ite ?_ ?_
      | refine LeO.bind ?_ (fun _ => ?_)
theorem spec_ApplyFeed.mono : ∀ a0 a1 k, LeO (spec_ApplyFeed.f k a0 a1) (spec_ApplyFeed.f (k + 1) a0 a1) := by
  intro a0 a1 k
  obtain ⟨ih0, ih1⟩ := spec_ApplyFeed.mono_l k
  unfold spec_ApplyFeed.f
  repeat' first
      | (with_reducible exact ih0 _ _ _)
      | (with_reducible exact ih1 _ _ _)
      | (with_reducible exact spec_FeedValid.mono _ _)
      | (with_reducible exact spec_PairDrop.mono _ _ _)
      | (with_reducible exact spec_PairGet.mono _ _ _)
      | (with_reducible exact spec_PairPut.mono _ _ _ _)
      | (with_reducible exact spec_PairsValid.mono _ _)
      | (with_reducible exact LeO.refl _)
      | (with_reducible exact LeO.none _)
      | (with_reducible refine LeO.ite ?_ ?_)
      | (with_reducible refine LeO.bind ?_ (fun _ => ?_))
      | exact ih0 _ _ _
      | exact ih1 _ _ _
      | exact spec_FeedValid.mono _ _
      | exact spec_PairDrop.mono _ _ _
      | exact spec_PairGet.mono _ _ _
      | exact spec_PairPut.mono _ _ _ _
      | exact spec_PairsValid.mono _ _
      | exact LeO.none _
      | refine LeO.ite ?_ ?_
      | refine LeO.bind ?_ (fun _ => ?_)
def spec_ApplyFeed.T7 : Bool × List (List Nat × List Nat) := (true, [([], []), ([], []), ([], []), ([1, 2], [1, 2]), ([3], [3]), ([4], [4]), ([0, 5], [0, 5]), ([], []), ([], []), ([7, 8], [7, 8]), ([9], [9]), ([10], [10]), ([6, 11], [6, 11])])
def spec_ApplyFeed.B7 : List Nat := [0, 0, 0, 6, 14, 30, 63, 0, 0, 384, 896, 1920, 4095]
theorem spec_ApplyFeed.tab7 : rtab .any (opsOf Try.f27 7) = spec_ApplyFeed.T7 := by kernel_rfl
theorem spec_ApplyFeed.bits7 : waitsOk spec_ApplyFeed.T7.2 spec_ApplyFeed.B7 = true := by kernel_rfl
def spec_ApplyFeed.T11 : Bool × List (List Nat × List Nat) := (true, [([], []), ([], []), ([], []), ([1, 2], [1, 2]), ([3], [3]), ([4], [4]), ([], []), ([], []), ([6, 7], [6, 7]), ([8], [8]), ([9], [9]), ([0, 5, 10], [0, 5, 10]), ([11], [11]), ([12], [12]), ([12], [12]), ([13, 11, 0, 1, 2, 3, 4, 5, 6, 7, 8, 9, 10, 11, 12, 13], [13]), ([14, 15, 0, 1, 2, 3, 4, 5, 6, 7, 8, 9, 10, 11, 12, 13, 14, 15], [14])])
def spec_ApplyFeed.B11 : List Nat := [0, 0, 0, 6, 14, 30, 0, 0, 192, 448, 960, 2047, 4095, 8191, 8191, 16383, 65535]
theorem spec_ApplyFeed.tab11 : rtab .any (opsOf Try.f27 11) = spec_ApplyFeed.T11 := by kernel_rfl
theorem spec_ApplyFeed.bits11 : waitsOk spec_ApplyFeed.T11.2 spec_ApplyFeed.B11 = true := by kernel_rfl
theorem spec_ApplyFeed.s0 {P0 Q : Prop} (B0 : P0) (h : P0 → Q := by (intro b0_; repeat (first | exact (Kd.R_reads' b0_).2.2 | (with_reducible refine Kd.C_alloc ?_ _) | (with_reducible refine Kd.C_drewN ?_ _) | (with_reducible refine Kd.C_drew ?_)))) : Q := h B0
def spec_ApplyFeed.m0 : Array Bool := #[o_, o_, o_, o_, o_, o_, o_, o_, o_, o_, o_, o_, o_]
def spec_ApplyFeed.m1 : Array Bool := #[i_, o_, o_, o_, o_, o_, o_, o_, o_, o_, o_, o_, o_]
def spec_ApplyFeed.m2 : Array Bool := #[i_, i_, o_, o_, o_, o_, o_, o_, o_, o_, o_, o_, o_]
def spec_ApplyFeed.m3 : Array Bool := #[i_, i_, i_, o_, o_, o_, o_, o_, o_, o_, o_, o_, o_]
def spec_ApplyFeed.m4 : Array Bool := #[i_, i_, i_, i_, o_, o_, o_, o_, o_, o_, o_, o_, o_]
def spec_ApplyFeed.m5 : Array Bool := #[i_, i_, i_, i_, i_, o_, o_, o_, o_, o_, o_, o_, o_]
def spec_ApplyFeed.m6 : Array Bool := #[i_, i_, i_, i_, i_, o_, o_, i_, o_, o_, o_, o_, o_]
def spec_ApplyFeed.m7 : Array Bool := #[i_, i_, i_, i_, i_, o_, o_, i_, i_, o_, o_, o_, o_]
def spec_ApplyFeed.m8 : Array Bool := #[i_, i_, i_, i_, i_, o_, o_, i_, i_, i_, o_, o_, o_]
def spec_ApplyFeed.m9 : Array Bool := #[i_, i_, i_, i_, i_, o_, o_, i_, i_, i_, i_, o_, o_]
def spec_ApplyFeed.m10 : Array Bool := #[i_, i_, i_, i_, i_, i_, o_, i_, i_, i_, i_, o_, o_]
def spec_ApplyFeed.m11 : Array Bool := #[i_, i_, i_, i_, i_, i_, o_, i_, i_, i_, i_, i_, o_]
def spec_ApplyFeed.m12 : Array Bool := #[i_, i_, i_, i_, i_, i_, i_, i_, i_, i_, i_, i_, o_]
def spec_ApplyFeed.m13 : Array Bool := #[i_, i_, i_, i_, i_, i_, i_, i_, i_, i_, i_, i_, i_]
def spec_ApplyFeed.m14 : Array Bool := #[o_, o_, o_, o_, o_, o_, o_, o_, o_, o_, o_, o_, o_, o_, o_, o_, o_]
def spec_ApplyFeed.m15 : Array Bool := #[i_, o_, o_, o_, o_, o_, o_, o_, o_, o_, o_, o_, o_, o_, o_, o_, o_]
def spec_ApplyFeed.m16 : Array Bool := #[i_, i_, o_, o_, o_, o_, o_, o_, o_, o_, o_, o_, o_, o_, o_, o_, o_]
def spec_ApplyFeed.m17 : Array Bool := #[i_, i_, i_, o_, o_, o_, o_, o_, o_, o_, o_, o_, o_, o_, o_, o_, o_]
def spec_ApplyFeed.m18 : Array Bool := #[i_, i_, i_, i_, o_, o_, o_, o_, o_, o_, o_, o_, o_, o_, o_, o_, o_]
def spec_ApplyFeed.m19 : Array Bool := #[i_, i_, i_, i_, i_, o_, o_, o_, o_, o_, o_, o_, o_, o_, o_, o_, o_]
def spec_ApplyFeed.m20 : Array Bool := #[i_, i_, i_, i_, i_, o_, i_, o_, o_, o_, o_, o_, o_, o_, o_, o_, o_]
def spec_ApplyFeed.m21 : Array Bool := #[i_, i_, i_, i_, i_, o_, i_, i_, o_, o_, o_, o_, o_, o_, o_, o_, o_]
def spec_ApplyFeed.m22 : Array Bool := #[i_, i_, i_, i_, i_, o_, i_, i_, i_, o_, o_, o_, o_, o_, o_, o_, o_]
def spec_ApplyFeed.m23 : Array Bool := #[i_, i_, i_, i_, i_, o_, i_, i_, i_, i_, o_, o_, o_, o_, o_, o_, o_]
def spec_ApplyFeed.m24 : Array Bool := #[i_, i_, i_, i_, i_, i_, i_, i_, i_, i_, o_, o_, o_, o_, o_, o_, o_]
def spec_ApplyFeed.m25 : Array Bool := #[i_, i_, i_, i_, i_, i_, i_, i_, i_, i_, i_, o_, o_, o_, o_, o_, o_]
def spec_ApplyFeed.m26 : Array Bool := #[i_, i_, i_, i_, i_, i_, i_, i_, i_, i_, i_, i_, o_, o_, o_, o_, o_]
def spec_ApplyFeed.m27 : Array Bool := #[i_, i_, i_, i_, i_, i_, i_, i_, i_, i_, i_, i_, i_, o_, o_, o_, o_]
def spec_ApplyFeed.m28 : Array Bool := #[i_, i_, i_, i_, i_, i_, i_, i_, i_, i_, i_, i_, i_, i_, o_, o_, o_]
def spec_ApplyFeed.m29 : Array Bool := #[i_, i_, i_, i_, i_, i_, i_, i_, i_, i_, i_, i_, i_, i_, i_, o_, o_]
def spec_ApplyFeed.m30 : Array Bool := #[i_, i_, i_, i_, i_, i_, i_, i_, i_, i_, i_, i_, i_, i_, i_, i_, o_]
def spec_ApplyFeed.m31 : Array Bool := #[i_, i_, i_, i_, i_, i_, i_, i_, i_, i_, i_, i_, i_, i_, i_, i_, i_]
set_option maxHeartbeats 8000000 in
set_option maxRecDepth 100000 in
theorem spec_ApplyFeed.calls (k : Nat) (A0 : Option Addr) (c0 : Nat) (l0 : List (S29)) (A1 : Option Addr) (c1 : Nat) (l1 : List (S75)) (r1 : List (S29)) (r2 : Bool) (w : World) (hr0 : Kd.C k29 w A0 l0.length l0) (hc0 : l0.length ≤ c0) (hr1 : Kd.C k75 w A1 l1.length l1) (hc1 : l1.length ≤ c1) (h : spec_ApplyFeed.f k l0 l1 = some (r1, r2)) :
    Calls Try.prog 27 #[.slice A0 l0.length c0, .slice A1 l1.length c1] w fun e w' => ∃ v0_ : Value, e = .returned (.tuple #[v0_, .bool r2]) ∧ Kd.R k29 29 w' w.heap.size (fun _ => True) v0_ r1 ∧ Below w.heap.size w w' := by
  have HR0 := Aside0.mk hr0
  have HC0 := Aside0.mk hc0
  clear hr0 hc0
  have HR1 := Aside0.mk hr1
  have HC1 := Aside0.mk hc1
  clear hr1 hc1
  have HB := Aside0.mk (Below.refl w.heap.size w)
  have H : ((spec_PairsValid.f k l0).bind fun t184 => (if t184 = true then ((spec_FeedValid.f k l1).bind fun t185 => (spec_ApplyFeed.j0 k l0 l1 (!t185))) else (spec_ApplyFeed.j0 k l0 l1 true))) = some (r1, r2) := h
  clear h
  have HC3 := Aside0.mk H
  clear H
  go_enter Try.func27, Try.ntmps27
  go_upto_region 1 with (fail)
  go_cut [17] (fun v17 wc => ∃ (kq : Nat) (x17_2 : Bool), v17 = .bool x17_2 ∧ Aside0 (spec_ApplyFeed.j0 kq l0 l1 x17_2 = some (r1, r2)) ∧ Aside0 (kq ≤ k) ∧ Aside0 (Below w.heap.size w wc))
  case first =>
    have H := HC3.out
    clear HC3
    replace H := Option.bind_eq_some_iff.mp H
    obtain ⟨t184, A40, H⟩ := H
    replace H : (if t184 = true then ((spec_FeedValid.f k l1).bind fun t185 => (spec_ApplyFeed.j0 k l0 l1 (!t185))) else (spec_ApplyFeed.j0 k l0 l1 true)) = some (r1, r2) := H
    have A4 := Aside0.mk A40
    clear A40
    by_cases c5 : t184 = true
    · subst c5
      have H1 : ((spec_FeedValid.f k l1).bind fun t185 => (spec_ApplyFeed.j0 k l0 l1 (!t185))) = some (r1, r2) := by rw [if_pos rfl] at H; exact H
      clear H
      have H := H1
      clear H1
      replace H := Option.bind_eq_some_iff.mp H
      obtain ⟨t185, A60, H⟩ := H
      replace H : (spec_ApplyFeed.j0 k l0 l1 (!t185)) = some (r1, r2) := H
      have A6 := Aside0.mk A60
      clear A60
      have H' := Aside0.mk H
      clear H
      go_wp2_with (first | ((with_reducible refine gate_callee (f := 72) rfl ?_); refine gsl (some 11) rfl Try.func72 #[.slice A0 l0.length c0] rfl ?_; (with_reducible refine (spec_PairsValid.calls k _ _ l0 true _ ?side1 ?side2 A4.out).mono ?_); (case side1 => exact cc (Kd.C_below HR0.out HB.out)); (case side2 => exact HC0.out); rintro e w7 ⟨rfl, hb⟩; refine ⟨_, rfl, ?_⟩; replace HB := an0 HB hb; (try clear hb); (try clear hb2); (try clear hk); (try clear hi)) | (go_at_call 52; (with_reducible refine (spec_FeedValid.calls k _ _ l1 t185 _ ?side1 ?side2 A6.out).mono ?_); (case side1 => exact cc (Kd.C_below HR1.out HB.out)); (case side2 => exact HC1.out); rintro e w8 ⟨rfl, hb⟩; replace HB := an0 HB hb; (try clear hb); (try clear hb2); (try clear hk); (try clear hi)))
      go_meet
      case rel => exact ⟨_, (!t185), (by first | rfl | (simp; done) | (simp [*]; done) | (simp [bne_nil_, beq_nil_]; done)), H', ⟨by first | omega | exact Nat.le_refl _⟩, ⟨bp HB.out⟩⟩
    · replace c5 := Bool.eq_false_iff.mpr c5
      subst c5
      have H1 : (spec_ApplyFeed.j0 k l0 l1 true) = some (r1, r2) := by rw [if_neg (show ¬ (false = true) by decide)] at H; exact H
      clear H
      have H := H1
      clear H1
      have H' := Aside0.mk H
      clear H
      go_wp2_with (first | ((with_reducible refine gate_callee (f := 72) rfl ?_); refine gsl (some 11) rfl Try.func72 #[.slice A0 l0.length c0] rfl ?_; (with_reducible refine (spec_PairsValid.calls k _ _ l0 false _ ?side1 ?side2 A4.out).mono ?_); (case side1 => exact cc (Kd.C_below HR0.out HB.out)); (case side2 => exact HC0.out); rintro e w9 ⟨rfl, hb⟩; refine ⟨_, rfl, ?_⟩; replace HB := an0 HB hb; (try clear hb); (try clear hb2); (try clear hk); (try clear hi)))
      go_meet
      case rel => exact ⟨_, (true), (by first | rfl | (simp; done) | (simp [*]; done) | (simp [bne_nil_, beq_nil_]; done)), H', ⟨by first | omega | exact Nat.le_refl _⟩, ⟨bp HB.out⟩⟩
  case rest =>
    clear HC3
    try clear c1
    try clear c2
    try clear p2
    try clear c5
    try clear c7
    obtain ⟨kq, x17_2, rfl, HA, HJ2, HB⟩ := hcut
    cases kq with
    | zero => exact absurd HA.out (by simp [spec_ApplyFeed.j0])
    | succ kj2 =>
      have H := HA.out
      clear HA
      simp only [spec_ApplyFeed.j0] at H
      by_cases c10 : x17_2 = true
      · subst c10
        have H1 : (some ((([] : List (S29))), false)) = some (r1, r2) := by rw [if_pos rfl] at H; exact H
        clear H
        have H := H1
        clear H1
        obtain ⟨y186, hy186⟩ : ∃ y_ : List (S29), y_ = (([] : List (S29))) := ⟨_, rfl⟩
        replace H : (some (y186, false)) = some (r1, r2) := by first | (rw [hy186]; with_reducible exact H) | (have H2_ := (Option.bind_some _ _).symm.trans H; rw [hy186]; with_reducible exact H2_) | (have H2_ := (Option.bind_some _ _).symm.trans H; with_reducible exact H2_) | with_reducible exact H | (rw [hy186]; exact H) | exact H
        have Ny186 := Aside0.mk hy186
        clear hy186
        simp only [Option.some.injEq, Prod.mk.injEq] at H
        obtain ⟨rfl, rfl⟩ := H
        go_wp2_with (first | ((with_reducible refine gate_dst (N := 18) rfl ?_); refine Kd.R_lit k29 _ 29 ?hg (N := 18) ?hd (xs := ([] : List (S29))) (inner := []) (ok := fun _ => True) (okp := fun _ => True) ?hr ?hp (fun _ hk => hk) trivial (Below.refl _ _) (Nat.le_refl _) (by simp) ?_; (case hd => rfl); (case hg => rfl); (case hr => first | (go_simp; done) | (go_simp; rfl)); (case hp => exact (Reps.none _ _)); intro v187 w11 ho12 hb hg_ hnew_; clear hg_ hnew_; (first | rw [← Ny186.out] at ho12 | (simp only [Int.reduceToNat] at ho12; rw [← Ny186.out] at ho12)); have n0_ := Aside0.mk (Kd.R_lower ho12 (below_size (bp HB.out))); have n1_ := an0 HB hb; clear HB; have HO188 := n0_; have HB := n1_; clear n0_ n1_; clear hb ho12))
        go_ret2
        exact ⟨_, fe, by (with_reducible repeat (first | apply Kd.R_alloc | apply Kd.R_drewN | apply Kd.R_drew)); exact HO188.out, bp HB.out⟩
      · replace c10 := Bool.eq_false_iff.mpr c10
        subst c10
        have H1 : ((some (([] : List (S29)) : List (S29))).bind fun y189 => (if y189.length + l0.length < 5864062014805 then (spec_ApplyFeed.l0 kj2 l1 (y189 ++ l0) 0) else (none))) = some (r1, r2) := by rw [if_neg (show ¬ (false = true) by decide)] at H; exact H
        clear H
        have H := H1
        clear H1
        obtain ⟨y189, hy189⟩ : ∃ y_ : List (S29), y_ = (([] : List (S29))) := ⟨_, rfl⟩
        replace H : (if y189.length + l0.length < 5864062014805 then (spec_ApplyFeed.l0 kj2 l1 (y189 ++ l0) 0) else (none)) = some (r1, r2) := by first | (rw [hy189]; with_reducible exact H) | (have H2_ := (Option.bind_some _ _).symm.trans H; rw [hy189]; with_reducible exact H2_) | (have H2_ := (Option.bind_some _ _).symm.trans H; with_reducible exact H2_) | with_reducible exact H | (rw [hy189]; exact H) | exact H
        have Ny189 := Aside0.mk hy189
        clear hy189
        by_cases c13 : y189.length + l0.length < 5864062014805
        · rw [if_pos c13] at H
          have LMc13 := Aside0.mk c13
          clear c13
          obtain ⟨y192, hy192⟩ : ∃ y_ : List (S29), y_ = (y189 ++ l0) := ⟨_, rfl⟩
          replace H : (spec_ApplyFeed.l0 kj2 l1 y192 0) = some (r1, r2) := by first | (rw [hy192]; with_reducible exact H) | (have H2_ := (Option.bind_some _ _).symm.trans H; rw [hy192]; with_reducible exact H2_) | (have H2_ := (Option.bind_some _ _).symm.trans H; with_reducible exact H2_) | with_reducible exact H | (rw [hy192]; exact H) | exact H
          have Ny192 := Aside0.mk hy192
          clear hy192
          have H' := Aside0.mk H
          clear H
          go_wp2_with (first | ((with_reducible refine gate_dst (N := 19) rfl ?_); refine Kd.R_lit k29 _ 29 ?hg (N := 19) ?hd (xs := ([] : List (S29))) (inner := []) (ok := fun _ => True) (okp := fun _ => True) ?hr ?hp (fun _ hk => hk) trivial (Below.refl _ _) (Nat.le_refl _) (by simp) ?_; (case hd => rfl); (case hg => rfl); (case hr => first | (go_simp; done) | (go_simp; rfl)); (case hp => exact (Reps.none _ _)); intro v190 w14 ho15 hb hg_ hnew_; clear hg_ hnew_; (first | rw [← Ny189.out] at ho15 | (simp only [Int.reduceToNat] at ho15; rw [← Ny189.out] at ho15)); have n0_ := Aside0.mk (Kd.R_lower ho15 (below_size (bp HB.out))); have n1_ := an0 HB hb; clear HB; have HO191 := n0_; have HB := n1_; clear n0_ n1_; clear hb ho15) | ((with_reducible refine gate_builtin (b := .append) (xs := #[.tmp 19, .tmp 20]) rfl ?_); at_builtin; refine Kd.R_append_rows k29 (w0 := w) w.heap.size rfl (.tmp 19) (.tmp 20) 23 29 (.agg #[(.string ⟨#[]⟩), (.int .i64 0)]) 24 rfl Try.underlying23 info29 rfl (by decide) (by omega) v190 y189 l0 _ _ _ (fun _ => True) (fun _ => False) rfl rfl ?aO ?aR (fun _ _ h => h) (fun _ h => h.elim) ?aF ?aB ?aS ?aL ?_; (case aR => exact cc (Kd.C_below HR0.out HB.out)); (case aB => exact (bp HB.out)); (case aF => exact (fun _ _ => trivial)); (case aO => exact (kr HO191.out)); (case aS => exact (below_size (bp HB.out))); (case aL => have := LMc13.out; omega); intro v193 w16 ho hb hg hat; rw [← Ny192.out] at ho; have n0_ := Aside0.mk (hb); have n1_ := Aside0.mk (ho); clear HB; clear HO191; have HB := n0_; have HO194 := n1_; clear n0_ n1_; clear ho hb hg hat))
          go_loopg [6, 7] kj2 (fun kq v6 v7 w' => ∃ (x6_2 : List (S29)) (x7_2 : Int), v7 = .int .i64 x7_2 ∧ Aside0 (spec_ApplyFeed.l0 kq l1 x6_2 x7_2 = some (r1, r2)) ∧ Aside0 (kq ≤ kj2) ∧ Aside0 (Kd.R k29 29 w' w.heap.size (fun _ => True) v6 x6_2) ∧ Aside0 (Below w.heap.size w w'))
          case atStart => exact ⟨(y192), (0), (by first | rfl | (simp; done) | (simp [*]; done) | (simp [bne_nil_, beq_nil_]; done)), H', ⟨Nat.le_refl _⟩, ⟨by (with_reducible repeat (first | apply Kd.R_alloc | apply Kd.R_drewN | apply Kd.R_drew)); exact HO194.out⟩, ⟨bp HB.out⟩⟩
          case round =>
            clear H'
            try clear c1
            try clear c2
            try clear p2
            try clear c5
            try clear p6
            try clear c7
            try clear c10
            try clear c13
            try clear p2
            obtain ⟨x6_2, x7_2, rfl, HA, HK2, HO_6, HB⟩ := hrel
            cases gk with
            | zero => exact absurd HA.out (by simp [spec_ApplyFeed.l0])
            | succ k2 =>
              have H := HA.out
              clear HA
              simp only [spec_ApplyFeed.l0] at H
              by_cases c17 : x7_2 < (l1.length : Int)
              · rw [if_pos c17] at H
                have c17b0 : decide (x7_2 < (l1.length : Int)) = true := decide_eq_true c17
                clear c17
                by_cases c18 : 0 ≤ x7_2
                · rw [if_pos c18] at H
                  have c18b0 : decide (0 ≤ x7_2) = true := decide_eq_true c18
                  clear c18
                  replace H := Option.bind_eq_some_iff.mp H
                  obtain ⟨t196, A190, H⟩ := H
                  replace H : (if t196 = ((rd_T75 l1 x7_2).f2) then ((spec_PairDrop.f k2 x6_2 ((rd_T75 l1 x7_2).f1)).bind fun bt202 => (if ((rd_T75 l1 x7_2).f3) ≥ 0 then ((spec_PairPut.f k2 x6_2 ((rd_T75 l1 x7_2).f1) ((rd_T75 l1 x7_2).f3)).bind fun bt209 => (if bt209.2 = true then (spec_ApplyFeed.l0 k2 l1 bt209.1 (wrap64 (x7_2 + 1))) else (some ((([] : List (S29))), false)))) else (if bt202.2 = true then (spec_ApplyFeed.l0 k2 l1 bt202.1 (wrap64 (x7_2 + 1))) else (some ((([] : List (S29))), false))))) else (some ((([] : List (S29))), false))) = some (r1, r2) := H
                  have A19 := Aside0.mk A190
                  clear A190
                  by_cases c20 : t196 = ((rd_T75 l1 x7_2).f2)
                  · rw [if_pos c20] at H
                    have c20b0 : (t196 == ((rd_T75 l1 x7_2).f2)) = true := beq_iff_eq.mpr c20
                    have c20b1 : (t196 != ((rd_T75 l1 x7_2).f2)) = false := bne_eq_false_iff_eq.mpr c20
                    clear c20
                    replace H := Option.bind_eq_some_iff.mp H
                    obtain ⟨⟨t202, t203⟩, A210, H⟩ := H
                    replace H : (if ((rd_T75 l1 x7_2).f3) ≥ 0 then ((spec_PairPut.f k2 x6_2 ((rd_T75 l1 x7_2).f1) ((rd_T75 l1 x7_2).f3)).bind fun bt209 => (if bt209.2 = true then (spec_ApplyFeed.l0 k2 l1 bt209.1 (wrap64 (x7_2 + 1))) else (some ((([] : List (S29))), false)))) else (if t203 = true then (spec_ApplyFeed.l0 k2 l1 t202 (wrap64 (x7_2 + 1))) else (some ((([] : List (S29))), false)))) = some (r1, r2) := H
                    have A21 := Aside0.mk A210
                    clear A210
                    by_cases c22 : ((rd_T75 l1 x7_2).f3) ≥ 0
                    · rw [if_pos c22] at H
                      have c22b0 : decide (0 ≤ ((rd_T75 l1 x7_2).f3)) = true := decide_eq_true c22
                      clear c22
                      replace H := Option.bind_eq_some_iff.mp H
                      obtain ⟨⟨t209, t210⟩, A230, H⟩ := H
                      replace H : (if t210 = true then (spec_ApplyFeed.l0 k2 l1 t209 (wrap64 (x7_2 + 1))) else (some ((([] : List (S29))), false))) = some (r1, r2) := H
                      have A23 := Aside0.mk A230
                      clear A230
                      by_cases c24 : t210 = true
                      · subst c24
                        have H1 : (spec_ApplyFeed.l0 k2 l1 t209 (wrap64 (x7_2 + 1))) = some (r1, r2) := by rw [if_pos rfl] at H; exact H
                        clear H
                        have H := H1
                        clear H1
                        have H' := Aside0.mk H
                        clear H
                        try go_wp2
                        have n0_ := Aside0.mk (Kd.R_drew HO_6.out)
                        have n1_ := Aside0.mk (below_drew1 HB.out)
                        clear HO_6
                        clear HB
                        have HO_6 := n0_
                        have HB := n1_
                        clear n0_ n1_
                        have p195 : 0 ≤ (x7_2 : Int) := of_decide_eq_true (by first | (with_reducible assumption) | assumption)
                        have q195 : x7_2 < (l1.length : Int) := of_decide_eq_true (by first | (with_reducible assumption) | assumption)
                        obtain ⟨ad195, e195, hx195_0, hx195_1, hx195_2, hx195_3⟩ := at_T75 HR1.out x7_2 p195 q195
                        have hw195_3 := hx195_3
                        have hw195_2 := hx195_2
                        have hw195_1 := hx195_1
                        have hw195_0 := hx195_0
                        cases e195
                        replace hx195_0 := hcx HB hx195_0
                        replace hx195_1 := hcx HB hx195_1
                        replace hx195_2 := hcx HB hx195_2
                        replace hx195_3 := hcx HB hx195_3
                        replace p195 := eq_true p195
                        replace q195 := eq_true q195
                        have p197 : 0 ≤ (x7_2 : Int) := of_decide_eq_true (by first | (with_reducible assumption) | assumption)
                        have q197 : x7_2 < (l1.length : Int) := of_decide_eq_true (by first | (with_reducible assumption) | assumption)
                        obtain ⟨ad197, e197, hx197_0, hx197_1, hx197_2, hx197_3⟩ := at_T75 HR1.out x7_2 p197 q197
                        have hw197_3 := hx197_3
                        have hw197_2 := hx197_2
                        have hw197_1 := hx197_1
                        have hw197_0 := hx197_0
                        obtain rfl : ad195 = ad197 := (by injection e197)
                        replace hx197_0 := hcx HB hx197_0
                        replace hx197_1 := hcx HB hx197_1
                        replace hx197_2 := hcx HB hx197_2
                        replace hx197_3 := hcx HB hx197_3
                        replace p197 := eq_true p197
                        replace q197 := eq_true q197
                        obtain ⟨Ao26, co26, eo26⟩ := Kd.R_slice HO_6.out
                        (first | subst eo26 | (injection eo26 with f1_ f2_ f3_; have f4_ := f1_.symm; have f5_ := f3_.symm; clear f1_ f2_ f3_; subst f4_; subst f5_))
                        refine start_ (n := 13) (S := fun w' => w'.cell? (ad195.add ((x7_2).toNat * 4)) = some (.int .i64 ((rd_T75 l1 x7_2).f0)) ∧ w'.cell? ⟨(ad195.add ((x7_2).toNat * 4)).block, (ad195.add ((x7_2).toNat * 4)).off + 1, none⟩ = some (.string ((rd_T75 l1 x7_2).f1)) ∧ w'.cell? ⟨(ad195.add ((x7_2).toNat * 4)).block, (ad195.add ((x7_2).toNat * 4)).off + 2, none⟩ = some (.int .i64 ((rd_T75 l1 x7_2).f2)) ∧ w'.cell? ⟨(ad195.add ((x7_2).toNat * 4)).block, (ad195.add ((x7_2).toNat * 4)).off + 3, none⟩ = some (.int .i64 ((rd_T75 l1 x7_2).f3)) ∧ w'.cell? (ad195.add ((x7_2).toNat * 4)) = some (.int .i64 ((rd_T75 l1 x7_2).f0)) ∧ w'.cell? ⟨(ad195.add ((x7_2).toNat * 4)).block, (ad195.add ((x7_2).toNat * 4)).off + 1, none⟩ = some (.string ((rd_T75 l1 x7_2).f1)) ∧ w'.cell? ⟨(ad195.add ((x7_2).toNat * 4)).block, (ad195.add ((x7_2).toNat * 4)).off + 2, none⟩ = some (.int .i64 ((rd_T75 l1 x7_2).f2)) ∧ w'.cell? ⟨(ad195.add ((x7_2).toNat * 4)).block, (ad195.add ((x7_2).toNat * 4)).off + 3, none⟩ = some (.int .i64 ((rd_T75 l1 x7_2).f3))) (ds := []) spec_ApplyFeed.m0 (by kernel_rfl) rfl rfl ⟨(hcx HB hw195_0), (hcx HB hw195_1), (hcx HB hw195_2), (hcx HB hw195_3), (hcx HB hw197_0), (hcx HB hw197_1), (hcx HB hw197_2), (hcx HB hw197_3)⟩ (fun hHeld => ?_); refine with_tabW spec_ApplyFeed.tab7 spec_ApplyFeed.bits7 (fun HT_ HW_ => ?_)
                        generalize wr.drew = w25 at HO_6 HB hx195_0 hx195_1 hx195_2 hx195_3 hx197_0 hx197_1 hx197_2 hx197_3 hHeld ⊢
                        refine pur (i := 0) (N := some 28) spec_ApplyFeed.m1 rfl rfl HT_.out ?_
                        refine pur (i := 1) (N := some 29) spec_ApplyFeed.m2 rfl rfl HT_.out ?_
                        refine pur (i := 2) (N := some 30) spec_ApplyFeed.m3 rfl rfl HT_.out ?_
                        refine pur (i := 3) (N := some 31) spec_ApplyFeed.m4 rfl rfl HT_.out ?_
                        refine pur (i := 4) (N := some 32) spec_ApplyFeed.m5 rfl rfl HT_.out ?_
                        refine pur (i := 7) (N := some 35) spec_ApplyFeed.m6 rfl rfl HT_.out ?_
                        refine pur (i := 8) (N := some 36) spec_ApplyFeed.m7 rfl rfl HT_.out ?_
                        refine pur (i := 9) (N := some 37) spec_ApplyFeed.m8 rfl rfl HT_.out ?_
                        refine pur (i := 10) (N := some 38) spec_ApplyFeed.m9 rfl rfl HT_.out ?_
                        refine take_ (i := 5) (N := some 33) (v := ?_) (a' := ?_) spec_ApplyFeed.m10 rfl rfl (take_ofW HT_.out HW_.out (by kernel_rfl)) (fun _ _ _ h => h) (Or.inl ⟨by rfl, ?_⟩) hHeld ?_ ?_
                        rotate_left
                        · rintro w' ⟨s0, s1, s2, s3, s4, s5, s6, s7⟩
                          go_simp
                          with_reducible rfl
                        rotate_left; focus (simp only [Act.put, List.setIfInBounds_toArray, List.set_cons_zero, List.set_cons_succ, i64_w, i32_w]; rfl)
                        refine take_ (i := 11) (N := some 39) (v := ?_) (a' := ?_) spec_ApplyFeed.m11 rfl rfl (take_ofW HT_.out HW_.out (by kernel_rfl)) (fun _ _ _ h => h) (Or.inl ⟨by rfl, ?_⟩) hHeld ?_ ?_
                        rotate_left
                        · rintro w' ⟨s0, s1, s2, s3, s4, s5, s6, s7⟩
                          go_simp
                          with_reducible rfl
                        rotate_left; focus (simp only [Act.put, List.setIfInBounds_toArray, List.set_cons_zero, List.set_cons_succ, i64_w, i32_w]; rfl)
                        refine one_ (i := 6) (N := some 34) spec_ApplyFeed.m12 rfl rfl (one_of HT_.out (by kernel_rfl)) (by decide) (fun K hK => ?_)
                        refine goes_ Try.func91 (by kernel_rfl) rfl #[.slice Ao26 x6_2.length co26, .string ((rd_T75 l1 x7_2).f1)] (by rfl) rfl rfl (by (try simp only [List.map_toArray, List.map_cons, List.map_nil]); first | done | rfl | (simp only [List.length_drop, List.length_take]; rfl)) ?_
                        with_reducible refine (spec_PairGet.calls k2 _ _ x6_2 ((rd_T75 l1 x7_2).f1) t196 _ ?side1 ?side2 A19.out).mono ?_
                        (case side1 => exact spec_ApplyFeed.s0 HO_6.out)
                        (case side2 => exact (Kd.R_reads' HO_6.out).2.1)
                        rintro e w27 ⟨rfl, hb⟩
                        refine ⟨_, rfl, ?_⟩
                        have n0_ := Aside0.mk (Kd.R_below (kr HO_6.out) hb)
                        have n1_ := an0 HB hb
                        clear HO_6
                        clear HB
                        have HO_6 := n0_
                        have HB := n1_
                        clear n0_ n1_
                        (try clear hb)
                        (try clear hb2)
                        (try clear hk)
                        (try clear hi)
                        refine hK.out _ _ ⟨(hcx HB hw195_0), (hcx HB hw195_1), (hcx HB hw195_2), (hcx HB hw195_3), (hcx HB hw197_0), (hcx HB hw197_1), (hcx HB hw197_2), (hcx HB hw197_3)⟩ (fun hHeld => ?_)
                        clear hK K
                        refine norm_ (a' := ?_) ?_ ?_
                        rotate_left
                        · show Act.put _ (some 34) _ = _
                          simp only [Act.put, List.setIfInBounds_toArray, List.set_cons_zero, List.set_cons_succ, i64_w, i32_w]
                          rfl
                        refine pur (i := 12) (N := some 40) spec_ApplyFeed.m13 rfl rfl HT_.out ?_
                        refine done_ (done_of HT_.out (by kernel_rfl)) ?_
                        have p201 : 0 ≤ (x7_2 : Int) := of_decide_eq_true (by first | (with_reducible assumption) | assumption)
                        have q201 : x7_2 < (l1.length : Int) := of_decide_eq_true (by first | (with_reducible assumption) | assumption)
                        obtain ⟨ad201, e201, hx201_0, hx201_1, hx201_2, hx201_3⟩ := at_T75 HR1.out x7_2 p201 q201
                        obtain rfl : ad195 = ad201 := (by injection e201)
                        replace hx201_0 := hcx HB hx201_0
                        replace hx201_1 := hcx HB hx201_1
                        replace hx201_2 := hcx HB hx201_2
                        replace hx201_3 := hcx HB hx201_3
                        replace p201 := eq_true p201
                        replace q201 := eq_true q201
                        try go_wp2_with (first | ((with_reducible refine gate_callee (f := 92) rfl ?_); refine gsl (some 49) rfl Try.func92 #[.slice Ao26 x6_2.length co26, .string ((rd_T75 l1 x7_2).f1)] rfl ?_; (with_reducible refine (spec_PairDrop.calls k2 _ _ x6_2 ((rd_T75 l1 x7_2).f1) t202 t203 _ ?side1 ?side2 A21.out).mono ?_); (case side1 => exact spec_ApplyFeed.s0 HO_6.out); (case side2 => exact (Kd.R_reads' HO_6.out).2.1); rintro e w28 ⟨v204, rfl, ho0, hb⟩; refine ⟨_, rfl, ?_⟩; have n0_ := Aside0.mk (Kd.R_elder' (kr HO_6.out) (Kd.R_base ho0) hb); have n1_ := Aside0.mk (Kd.R_lower (Kd.R_new' ho0 (Kd.R_lt (kr HO_6.out))) (below_size (bp HB.out))); have n2_ := an0 HB hb; clear HO_6; clear HB; have HO_6 := n0_; have HO205 := n1_; have HB := n2_; clear n0_ n1_ n2_; (try clear hb); (try clear hb2); (try clear hk); (try clear hi); (try clear ho0); have p206 : 0 ≤ (x7_2 : Int) := of_decide_eq_true (by first | (with_reducible assumption) | assumption); have q206 : x7_2 < (l1.length : Int) := of_decide_eq_true (by first | (with_reducible assumption) | assumption); obtain ⟨ad206, e206, hx206_0, hx206_1, hx206_2, hx206_3⟩ := at_T75 HR1.out x7_2 p206 q206; obtain rfl : ad195 = ad206 := (by injection e206); replace hx206_0 := hcx HB hx206_0; replace hx206_1 := hcx HB hx206_1; replace hx206_2 := hcx HB hx206_2; replace hx206_3 := hcx HB hx206_3; replace p206 := eq_true p206; replace q206 := eq_true q206))
                        have n0_ := Aside0.mk (Kd.R_drew HO_6.out)
                        have n1_ := Aside0.mk (Kd.R_drew HO205.out)
                        have n2_ := Aside0.mk (below_drew1 HB.out)
                        clear HO_6
                        clear HO205
                        clear HB
                        have HO_6 := n0_
                        have HO205 := n1_
                        have HB := n2_
                        clear n0_ n1_ n2_
                        have p207 : 0 ≤ (x7_2 : Int) := of_decide_eq_true (by first | (with_reducible assumption) | assumption)
                        have q207 : x7_2 < (l1.length : Int) := of_decide_eq_true (by first | (with_reducible assumption) | assumption)
                        obtain ⟨ad207, e207, hx207_0, hx207_1, hx207_2, hx207_3⟩ := at_T75 HR1.out x7_2 p207 q207
                        have hw207_3 := hx207_3
                        have hw207_2 := hx207_2
                        have hw207_1 := hx207_1
                        have hw207_0 := hx207_0
                        obtain rfl : ad195 = ad207 := (by injection e207)
                        replace hx207_0 := hcx HB hx207_0
                        replace hx207_1 := hcx HB hx207_1
                        replace hx207_2 := hcx HB hx207_2
                        replace hx207_3 := hcx HB hx207_3
                        replace p207 := eq_true p207
                        replace q207 := eq_true q207
                        have p208 : 0 ≤ (x7_2 : Int) := of_decide_eq_true (by first | (with_reducible assumption) | assumption)
                        have q208 : x7_2 < (l1.length : Int) := of_decide_eq_true (by first | (with_reducible assumption) | assumption)
                        obtain ⟨ad208, e208, hx208_0, hx208_1, hx208_2, hx208_3⟩ := at_T75 HR1.out x7_2 p208 q208
                        have hw208_3 := hx208_3
                        have hw208_2 := hx208_2
                        have hw208_1 := hx208_1
                        have hw208_0 := hx208_0
                        obtain rfl : ad195 = ad208 := (by injection e208)
                        replace hx208_0 := hcx HB hx208_0
                        replace hx208_1 := hcx HB hx208_1
                        replace hx208_2 := hcx HB hx208_2
                        replace hx208_3 := hcx HB hx208_3
                        replace p208 := eq_true p208
                        replace q208 := eq_true q208
                        refine start_ (n := 17) (S := fun w' => w'.cell? (ad195.add ((x7_2).toNat * 4)) = some (.int .i64 ((rd_T75 l1 x7_2).f0)) ∧ w'.cell? ⟨(ad195.add ((x7_2).toNat * 4)).block, (ad195.add ((x7_2).toNat * 4)).off + 1, none⟩ = some (.string ((rd_T75 l1 x7_2).f1)) ∧ w'.cell? ⟨(ad195.add ((x7_2).toNat * 4)).block, (ad195.add ((x7_2).toNat * 4)).off + 2, none⟩ = some (.int .i64 ((rd_T75 l1 x7_2).f2)) ∧ w'.cell? ⟨(ad195.add ((x7_2).toNat * 4)).block, (ad195.add ((x7_2).toNat * 4)).off + 3, none⟩ = some (.int .i64 ((rd_T75 l1 x7_2).f3)) ∧ w'.cell? (ad195.add ((x7_2).toNat * 4)) = some (.int .i64 ((rd_T75 l1 x7_2).f0)) ∧ w'.cell? ⟨(ad195.add ((x7_2).toNat * 4)).block, (ad195.add ((x7_2).toNat * 4)).off + 1, none⟩ = some (.string ((rd_T75 l1 x7_2).f1)) ∧ w'.cell? ⟨(ad195.add ((x7_2).toNat * 4)).block, (ad195.add ((x7_2).toNat * 4)).off + 2, none⟩ = some (.int .i64 ((rd_T75 l1 x7_2).f2)) ∧ w'.cell? ⟨(ad195.add ((x7_2).toNat * 4)).block, (ad195.add ((x7_2).toNat * 4)).off + 3, none⟩ = some (.int .i64 ((rd_T75 l1 x7_2).f3))) (ds := []) spec_ApplyFeed.m14 (by kernel_rfl) rfl rfl ⟨(hcx HB hw207_0), (hcx HB hw207_1), (hcx HB hw207_2), (hcx HB hw207_3), (hcx HB hw208_0), (hcx HB hw208_1), (hcx HB hw208_2), (hcx HB hw208_3)⟩ (fun hHeld => ?_); refine with_tabW spec_ApplyFeed.tab11 spec_ApplyFeed.bits11 (fun HT_ HW_ => ?_)
                        generalize w28.drew = w29 at HO_6 HO205 HB hx207_0 hx207_1 hx207_2 hx207_3 hx208_0 hx208_1 hx208_2 hx208_3 hHeld ⊢
                        refine pur (i := 0) (N := some 59) spec_ApplyFeed.m15 rfl rfl HT_.out ?_
                        refine pur (i := 1) (N := some 60) spec_ApplyFeed.m16 rfl rfl HT_.out ?_
                        refine pur (i := 2) (N := some 61) spec_ApplyFeed.m17 rfl rfl HT_.out ?_
                        refine pur (i := 3) (N := some 62) spec_ApplyFeed.m18 rfl rfl HT_.out ?_
                        refine pur (i := 4) (N := some 63) spec_ApplyFeed.m19 rfl rfl HT_.out ?_
                        refine pur (i := 6) (N := some 65) spec_ApplyFeed.m20 rfl rfl HT_.out ?_
                        refine pur (i := 7) (N := some 66) spec_ApplyFeed.m21 rfl rfl HT_.out ?_
                        refine pur (i := 8) (N := some 67) spec_ApplyFeed.m22 rfl rfl HT_.out ?_
                        refine pur (i := 9) (N := some 68) spec_ApplyFeed.m23 rfl rfl HT_.out ?_
                        refine take_ (i := 5) (N := some 64) (v := ?_) (a' := ?_) spec_ApplyFeed.m24 rfl rfl (take_ofW HT_.out HW_.out (by kernel_rfl)) (fun _ _ _ h => h) (Or.inl ⟨by rfl, ?_⟩) hHeld ?_ ?_
                        rotate_left
                        · rintro w' ⟨s0, s1, s2, s3, s4, s5, s6, s7⟩
                          go_simp
                          with_reducible rfl
                        rotate_left; focus (simp only [Act.put, List.setIfInBounds_toArray, List.set_cons_zero, List.set_cons_succ, i64_w, i32_w]; rfl)
                        refine take_ (i := 10) (N := some 69) (v := ?_) (a' := ?_) spec_ApplyFeed.m25 rfl rfl (take_ofW HT_.out HW_.out (by kernel_rfl)) (fun _ _ _ h => h) (Or.inl ⟨by rfl, ?_⟩) hHeld ?_ ?_
                        rotate_left
                        · rintro w' ⟨s0, s1, s2, s3, s4, s5, s6, s7⟩
                          go_simp
                          with_reducible rfl
                        rotate_left; focus (simp only [Act.put, List.setIfInBounds_toArray, List.set_cons_zero, List.set_cons_succ, i64_w, i32_w]; rfl)
                        refine one_ (i := 11) (N := some 70) spec_ApplyFeed.m26 rfl rfl (one_of HT_.out (by kernel_rfl)) (by decide) (fun K hK => ?_)
                        refine goes_ Try.func93 (by kernel_rfl) rfl #[.slice Ao26 x6_2.length co26, .string ((rd_T75 l1 x7_2).f1), .int .i64 ((rd_T75 l1 x7_2).f3)] (by rfl) rfl rfl (by (try simp only [List.map_toArray, List.map_cons, List.map_nil]); first | done | rfl | (simp only [List.length_drop, List.length_take]; rfl)) ?_
                        with_reducible refine (spec_PairPut.calls k2 _ _ x6_2 ((rd_T75 l1 x7_2).f1) ((rd_T75 l1 x7_2).f3) t209 true _ ?side1 ?side2 A23.out).mono ?_
                        (case side1 => exact spec_ApplyFeed.s0 HO_6.out)
                        (case side2 => exact (Kd.R_reads' HO_6.out).2.1)
                        rintro e w30 ⟨v211, rfl, ho0, hb⟩
                        refine ⟨_, rfl, ?_⟩
                        have n0_ := Aside0.mk (Kd.R_elder' (kr HO_6.out) (Kd.R_base ho0) hb)
                        have n1_ := Aside0.mk (Kd.R_elder' (kr HO205.out) (Kd.R_base ho0) hb)
                        have n2_ := Aside0.mk (Kd.R_lower (Kd.R_new' (Kd.R_new' ho0 (Kd.R_lt (kr HO_6.out))) (Kd.R_lt (kr HO205.out))) (below_size (bp HB.out)))
                        have n3_ := an0 HB hb
                        clear HO_6
                        clear HO205
                        clear HB
                        have HO_6 := n0_
                        have HO205 := n1_
                        have HO212 := n2_
                        have HB := n3_
                        clear n0_ n1_ n2_ n3_
                        (try clear hb)
                        (try clear hb2)
                        (try clear hk)
                        (try clear hi)
                        (try clear ho0)
                        refine hK.out _ _ ⟨(hcx HB hw207_0), (hcx HB hw207_1), (hcx HB hw207_2), (hcx HB hw207_3), (hcx HB hw208_0), (hcx HB hw208_1), (hcx HB hw208_2), (hcx HB hw208_3)⟩ (fun hHeld => ?_)
                        clear hK K
                        refine norm_ (a' := ?_) ?_ ?_
                        rotate_left
                        · show Act.put _ (some 70) _ = _
                          simp only [Act.put, List.setIfInBounds_toArray, List.set_cons_zero, List.set_cons_succ, i64_w, i32_w]
                          rfl
                        refine pur (i := 12) (N := some 58) spec_ApplyFeed.m27 rfl rfl HT_.out ?_
                        refine pur (i := 13) (N := some 71) spec_ApplyFeed.m28 rfl rfl HT_.out ?_
                        refine pur (i := 14) (N := some 72) spec_ApplyFeed.m29 rfl rfl HT_.out ?_
                        refine pur (i := 15) (N := some 8) spec_ApplyFeed.m30 rfl rfl HT_.out ?_
                        refine pur (i := 16) (N := some 9) spec_ApplyFeed.m31 rfl rfl HT_.out ?_
                        refine done_ (done_of HT_.out (by kernel_rfl)) ?_
                        try go_wp2
                        go_roundg k2
                        case measure => have := HJ2.out; have := HK2.out; omega
                        case rel => exact ⟨(t209), (wrap64 (x7_2 + 1)), (by first | rfl | (simp; done) | (simp [*]; done) | (simp [bne_nil_, beq_nil_]; done)), H', ⟨by have := HJ2.out; have := HK2.out; omega⟩, ⟨by (with_reducible repeat (first | apply Kd.R_alloc | apply Kd.R_drewN | apply Kd.R_drew)); exact Kd.R_mono HO212.out (fun _ hk => trivial)⟩, ⟨bp HB.out⟩⟩
                      · replace c24 := Bool.eq_false_iff.mpr c24
                        subst c24
                        have H1 : (some ((([] : List (S29))), false)) = some (r1, r2) := by rw [if_neg (show ¬ (false = true) by decide)] at H; exact H
                        clear H
                        have H := H1
                        clear H1
                        obtain ⟨y213, hy213⟩ : ∃ y_ : List (S29), y_ = (([] : List (S29))) := ⟨_, rfl⟩
                        replace H : (some (y213, false)) = some (r1, r2) := by first | (rw [hy213]; with_reducible exact H) | (have H2_ := (Option.bind_some _ _).symm.trans H; rw [hy213]; with_reducible exact H2_) | (have H2_ := (Option.bind_some _ _).symm.trans H; with_reducible exact H2_) | with_reducible exact H | (rw [hy213]; exact H) | exact H
                        have Ny213 := Aside0.mk hy213
                        clear hy213
                        simp only [Option.some.injEq, Prod.mk.injEq] at H
                        obtain ⟨rfl, rfl⟩ := H
                        try go_wp2
                        have n0_ := Aside0.mk (Kd.R_drew HO_6.out)
                        have n1_ := Aside0.mk (below_drew1 HB.out)
                        clear HO_6
                        clear HB
                        have HO_6 := n0_
                        have HB := n1_
                        clear n0_ n1_
                        have p195 : 0 ≤ (x7_2 : Int) := of_decide_eq_true (by first | (with_reducible assumption) | assumption)
                        have q195 : x7_2 < (l1.length : Int) := of_decide_eq_true (by first | (with_reducible assumption) | assumption)
                        obtain ⟨ad195, e195, hx195_0, hx195_1, hx195_2, hx195_3⟩ := at_T75 HR1.out x7_2 p195 q195
                        have hw195_3 := hx195_3
                        have hw195_2 := hx195_2
                        have hw195_1 := hx195_1
                        have hw195_0 := hx195_0
                        cases e195
                        replace hx195_0 := hcx HB hx195_0
                        replace hx195_1 := hcx HB hx195_1
                        replace hx195_2 := hcx HB hx195_2
                        replace hx195_3 := hcx HB hx195_3
                        replace p195 := eq_true p195
                        replace q195 := eq_true q195
                        have p197 : 0 ≤ (x7_2 : Int) := of_decide_eq_true (by first | (with_reducible assumption) | assumption)
                        have q197 : x7_2 < (l1.length : Int) := of_decide_eq_true (by first | (with_reducible assumption) | assumption)
                        obtain ⟨ad197, e197, hx197_0, hx197_1, hx197_2, hx197_3⟩ := at_T75 HR1.out x7_2 p197 q197
                        have hw197_3 := hx197_3
                        have hw197_2 := hx197_2
                        have hw197_1 := hx197_1
                        have hw197_0 := hx197_0
                        obtain rfl : ad195 = ad197 := (by injection e197)
                        replace hx197_0 := hcx HB hx197_0
                        replace hx197_1 := hcx HB hx197_1
                        replace hx197_2 := hcx HB hx197_2
                        replace hx197_3 := hcx HB hx197_3
                        replace p197 := eq_true p197
                        replace q197 := eq_true q197
                        obtain ⟨Ao32, co32, eo32⟩ := Kd.R_slice HO_6.out
                        (first | subst eo32 | (injection eo32 with f1_ f2_ f3_; have f4_ := f1_.symm; have f5_ := f3_.symm; clear f1_ f2_ f3_; subst f4_; subst f5_))
                        refine start_ (n := 13) (S := fun w' => w'.cell? (ad195.add ((x7_2).toNat * 4)) = some (.int .i64 ((rd_T75 l1 x7_2).f0)) ∧ w'.cell? ⟨(ad195.add ((x7_2).toNat * 4)).block, (ad195.add ((x7_2).toNat * 4)).off + 1, none⟩ = some (.string ((rd_T75 l1 x7_2).f1)) ∧ w'.cell? ⟨(ad195.add ((x7_2).toNat * 4)).block, (ad195.add ((x7_2).toNat * 4)).off + 2, none⟩ = some (.int .i64 ((rd_T75 l1 x7_2).f2)) ∧ w'.cell? ⟨(ad195.add ((x7_2).toNat * 4)).block, (ad195.add ((x7_2).toNat * 4)).off + 3, none⟩ = some (.int .i64 ((rd_T75 l1 x7_2).f3)) ∧ w'.cell? (ad195.add ((x7_2).toNat * 4)) = some (.int .i64 ((rd_T75 l1 x7_2).f0)) ∧ w'.cell? ⟨(ad195.add ((x7_2).toNat * 4)).block, (ad195.add ((x7_2).toNat * 4)).off + 1, none⟩ = some (.string ((rd_T75 l1 x7_2).f1)) ∧ w'.cell? ⟨(ad195.add ((x7_2).toNat * 4)).block, (ad195.add ((x7_2).toNat * 4)).off + 2, none⟩ = some (.int .i64 ((rd_T75 l1 x7_2).f2)) ∧ w'.cell? ⟨(ad195.add ((x7_2).toNat * 4)).block, (ad195.add ((x7_2).toNat * 4)).off + 3, none⟩ = some (.int .i64 ((rd_T75 l1 x7_2).f3))) (ds := []) spec_ApplyFeed.m0 (by kernel_rfl) rfl rfl ⟨(hcx HB hw195_0), (hcx HB hw195_1), (hcx HB hw195_2), (hcx HB hw195_3), (hcx HB hw197_0), (hcx HB hw197_1), (hcx HB hw197_2), (hcx HB hw197_3)⟩ (fun hHeld => ?_); refine with_tabW spec_ApplyFeed.tab7 spec_ApplyFeed.bits7 (fun HT_ HW_ => ?_)
                        generalize wr.drew = w31 at HO_6 HB hx195_0 hx195_1 hx195_2 hx195_3 hx197_0 hx197_1 hx197_2 hx197_3 hHeld ⊢
                        refine pur (i := 0) (N := some 28) spec_ApplyFeed.m1 rfl rfl HT_.out ?_
                        refine pur (i := 1) (N := some 29) spec_ApplyFeed.m2 rfl rfl HT_.out ?_
                        refine pur (i := 2) (N := some 30) spec_ApplyFeed.m3 rfl rfl HT_.out ?_
                        refine pur (i := 3) (N := some 31) spec_ApplyFeed.m4 rfl rfl HT_.out ?_
                        refine pur (i := 4) (N := some 32) spec_ApplyFeed.m5 rfl rfl HT_.out ?_
                        refine pur (i := 7) (N := some 35) spec_ApplyFeed.m6 rfl rfl HT_.out ?_
                        refine pur (i := 8) (N := some 36) spec_ApplyFeed.m7 rfl rfl HT_.out ?_
                        refine pur (i := 9) (N := some 37) spec_ApplyFeed.m8 rfl rfl HT_.out ?_
                        refine pur (i := 10) (N := some 38) spec_ApplyFeed.m9 rfl rfl HT_.out ?_
                        refine take_ (i := 5) (N := some 33) (v := ?_) (a' := ?_) spec_ApplyFeed.m10 rfl rfl (take_ofW HT_.out HW_.out (by kernel_rfl)) (fun _ _ _ h => h) (Or.inl ⟨by rfl, ?_⟩) hHeld ?_ ?_
                        rotate_left
                        · rintro w' ⟨s0, s1, s2, s3, s4, s5, s6, s7⟩
                          go_simp
                          with_reducible rfl
                        rotate_left; focus (simp only [Act.put, List.setIfInBounds_toArray, List.set_cons_zero, List.set_cons_succ, i64_w, i32_w]; rfl)
                        refine take_ (i := 11) (N := some 39) (v := ?_) (a' := ?_) spec_ApplyFeed.m11 rfl rfl (take_ofW HT_.out HW_.out (by kernel_rfl)) (fun _ _ _ h => h) (Or.inl ⟨by rfl, ?_⟩) hHeld ?_ ?_
                        rotate_left
                        · rintro w' ⟨s0, s1, s2, s3, s4, s5, s6, s7⟩
                          go_simp
                          with_reducible rfl
                        rotate_left; focus (simp only [Act.put, List.setIfInBounds_toArray, List.set_cons_zero, List.set_cons_succ, i64_w, i32_w]; rfl)
                        refine one_ (i := 6) (N := some 34) spec_ApplyFeed.m12 rfl rfl (one_of HT_.out (by kernel_rfl)) (by decide) (fun K hK => ?_)
                        refine goes_ Try.func91 (by kernel_rfl) rfl #[.slice Ao32 x6_2.length co32, .string ((rd_T75 l1 x7_2).f1)] (by rfl) rfl rfl (by (try simp only [List.map_toArray, List.map_cons, List.map_nil]); first | done | rfl | (simp only [List.length_drop, List.length_take]; rfl)) ?_
                        with_reducible refine (spec_PairGet.calls k2 _ _ x6_2 ((rd_T75 l1 x7_2).f1) t196 _ ?side1 ?side2 A19.out).mono ?_
                        (case side1 => exact spec_ApplyFeed.s0 HO_6.out)
                        (case side2 => exact (Kd.R_reads' HO_6.out).2.1)
                        rintro e w33 ⟨rfl, hb⟩
                        refine ⟨_, rfl, ?_⟩
                        have n0_ := Aside0.mk (Kd.R_below (kr HO_6.out) hb)
                        have n1_ := an0 HB hb
                        clear HO_6
                        clear HB
                        have HO_6 := n0_
                        have HB := n1_
                        clear n0_ n1_
                        (try clear hb)
                        (try clear hb2)
                        (try clear hk)
                        (try clear hi)
                        refine hK.out _ _ ⟨(hcx HB hw195_0), (hcx HB hw195_1), (hcx HB hw195_2), (hcx HB hw195_3), (hcx HB hw197_0), (hcx HB hw197_1), (hcx HB hw197_2), (hcx HB hw197_3)⟩ (fun hHeld => ?_)
                        clear hK K
                        refine norm_ (a' := ?_) ?_ ?_
                        rotate_left
                        · show Act.put _ (some 34) _ = _
                          simp only [Act.put, List.setIfInBounds_toArray, List.set_cons_zero, List.set_cons_succ, i64_w, i32_w]
                          rfl
                        refine pur (i := 12) (N := some 40) spec_ApplyFeed.m13 rfl rfl HT_.out ?_
                        refine done_ (done_of HT_.out (by kernel_rfl)) ?_
                        have p201 : 0 ≤ (x7_2 : Int) := of_decide_eq_true (by first | (with_reducible assumption) | assumption)
                        have q201 : x7_2 < (l1.length : Int) := of_decide_eq_true (by first | (with_reducible assumption) | assumption)
                        obtain ⟨ad201, e201, hx201_0, hx201_1, hx201_2, hx201_3⟩ := at_T75 HR1.out x7_2 p201 q201
                        obtain rfl : ad195 = ad201 := (by injection e201)
                        replace hx201_0 := hcx HB hx201_0
                        replace hx201_1 := hcx HB hx201_1
                        replace hx201_2 := hcx HB hx201_2
                        replace hx201_3 := hcx HB hx201_3
                        replace p201 := eq_true p201
                        replace q201 := eq_true q201
                        try go_wp2_with (first | ((with_reducible refine gate_callee (f := 92) rfl ?_); refine gsl (some 49) rfl Try.func92 #[.slice Ao32 x6_2.length co32, .string ((rd_T75 l1 x7_2).f1)] rfl ?_; (with_reducible refine (spec_PairDrop.calls k2 _ _ x6_2 ((rd_T75 l1 x7_2).f1) t202 t203 _ ?side1 ?side2 A21.out).mono ?_); (case side1 => exact spec_ApplyFeed.s0 HO_6.out); (case side2 => exact (Kd.R_reads' HO_6.out).2.1); rintro e w34 ⟨v204, rfl, ho0, hb⟩; refine ⟨_, rfl, ?_⟩; have n0_ := Aside0.mk (Kd.R_elder' (kr HO_6.out) (Kd.R_base ho0) hb); have n1_ := Aside0.mk (Kd.R_lower (Kd.R_new' ho0 (Kd.R_lt (kr HO_6.out))) (below_size (bp HB.out))); have n2_ := an0 HB hb; clear HO_6; clear HB; have HO_6 := n0_; have HO205 := n1_; have HB := n2_; clear n0_ n1_ n2_; (try clear hb); (try clear hb2); (try clear hk); (try clear hi); (try clear ho0); have p206 : 0 ≤ (x7_2 : Int) := of_decide_eq_true (by first | (with_reducible assumption) | assumption); have q206 : x7_2 < (l1.length : Int) := of_decide_eq_true (by first | (with_reducible assumption) | assumption); obtain ⟨ad206, e206, hx206_0, hx206_1, hx206_2, hx206_3⟩ := at_T75 HR1.out x7_2 p206 q206; obtain rfl : ad195 = ad206 := (by injection e206); replace hx206_0 := hcx HB hx206_0; replace hx206_1 := hcx HB hx206_1; replace hx206_2 := hcx HB hx206_2; replace hx206_3 := hcx HB hx206_3; replace p206 := eq_true p206; replace q206 := eq_true q206))
                        have n0_ := Aside0.mk (Kd.R_drew HO_6.out)
                        have n1_ := Aside0.mk (Kd.R_drew HO205.out)
                        have n2_ := Aside0.mk (below_drew1 HB.out)
                        clear HO_6
                        clear HO205
                        clear HB
                        have HO_6 := n0_
                        have HO205 := n1_
                        have HB := n2_
                        clear n0_ n1_ n2_
                        have p207 : 0 ≤ (x7_2 : Int) := of_decide_eq_true (by first | (with_reducible assumption) | assumption)
                        have q207 : x7_2 < (l1.length : Int) := of_decide_eq_true (by first | (with_reducible assumption) | assumption)
                        obtain ⟨ad207, e207, hx207_0, hx207_1, hx207_2, hx207_3⟩ := at_T75 HR1.out x7_2 p207 q207
                        have hw207_3 := hx207_3
                        have hw207_2 := hx207_2
                        have hw207_1 := hx207_1
                        have hw207_0 := hx207_0
                        obtain rfl : ad195 = ad207 := (by injection e207)
                        replace hx207_0 := hcx HB hx207_0
                        replace hx207_1 := hcx HB hx207_1
                        replace hx207_2 := hcx HB hx207_2
                        replace hx207_3 := hcx HB hx207_3
                        replace p207 := eq_true p207
                        replace q207 := eq_true q207
                        have p208 : 0 ≤ (x7_2 : Int) := of_decide_eq_true (by first | (with_reducible assumption) | assumption)
                        have q208 : x7_2 < (l1.length : Int) := of_decide_eq_true (by first | (with_reducible assumption) | assumption)
                        obtain ⟨ad208, e208, hx208_0, hx208_1, hx208_2, hx208_3⟩ := at_T75 HR1.out x7_2 p208 q208
                        have hw208_3 := hx208_3
                        have hw208_2 := hx208_2
                        have hw208_1 := hx208_1
                        have hw208_0 := hx208_0
                        obtain rfl : ad195 = ad208 := (by injection e208)
                        replace hx208_0 := hcx HB hx208_0
                        replace hx208_1 := hcx HB hx208_1
                        replace hx208_2 := hcx HB hx208_2
                        replace hx208_3 := hcx HB hx208_3
                        replace p208 := eq_true p208
                        replace q208 := eq_true q208
                        refine start_ (n := 17) (S := fun w' => w'.cell? (ad195.add ((x7_2).toNat * 4)) = some (.int .i64 ((rd_T75 l1 x7_2).f0)) ∧ w'.cell? ⟨(ad195.add ((x7_2).toNat * 4)).block, (ad195.add ((x7_2).toNat * 4)).off + 1, none⟩ = some (.string ((rd_T75 l1 x7_2).f1)) ∧ w'.cell? ⟨(ad195.add ((x7_2).toNat * 4)).block, (ad195.add ((x7_2).toNat * 4)).off + 2, none⟩ = some (.int .i64 ((rd_T75 l1 x7_2).f2)) ∧ w'.cell? ⟨(ad195.add ((x7_2).toNat * 4)).block, (ad195.add ((x7_2).toNat * 4)).off + 3, none⟩ = some (.int .i64 ((rd_T75 l1 x7_2).f3)) ∧ w'.cell? (ad195.add ((x7_2).toNat * 4)) = some (.int .i64 ((rd_T75 l1 x7_2).f0)) ∧ w'.cell? ⟨(ad195.add ((x7_2).toNat * 4)).block, (ad195.add ((x7_2).toNat * 4)).off + 1, none⟩ = some (.string ((rd_T75 l1 x7_2).f1)) ∧ w'.cell? ⟨(ad195.add ((x7_2).toNat * 4)).block, (ad195.add ((x7_2).toNat * 4)).off + 2, none⟩ = some (.int .i64 ((rd_T75 l1 x7_2).f2)) ∧ w'.cell? ⟨(ad195.add ((x7_2).toNat * 4)).block, (ad195.add ((x7_2).toNat * 4)).off + 3, none⟩ = some (.int .i64 ((rd_T75 l1 x7_2).f3))) (ds := []) spec_ApplyFeed.m14 (by kernel_rfl) rfl rfl ⟨(hcx HB hw207_0), (hcx HB hw207_1), (hcx HB hw207_2), (hcx HB hw207_3), (hcx HB hw208_0), (hcx HB hw208_1), (hcx HB hw208_2), (hcx HB hw208_3)⟩ (fun hHeld => ?_); refine with_tabW spec_ApplyFeed.tab11 spec_ApplyFeed.bits11 (fun HT_ HW_ => ?_)
                        generalize w34.drew = w35 at HO_6 HO205 HB hx207_0 hx207_1 hx207_2 hx207_3 hx208_0 hx208_1 hx208_2 hx208_3 hHeld ⊢
                        refine pur (i := 0) (N := some 59) spec_ApplyFeed.m15 rfl rfl HT_.out ?_
                        refine pur (i := 1) (N := some 60) spec_ApplyFeed.m16 rfl rfl HT_.out ?_
                        refine pur (i := 2) (N := some 61) spec_ApplyFeed.m17 rfl rfl HT_.out ?_
                        refine pur (i := 3) (N := some 62) spec_ApplyFeed.m18 rfl rfl HT_.out ?_
                        refine pur (i := 4) (N := some 63) spec_ApplyFeed.m19 rfl rfl HT_.out ?_
                        refine pur (i := 6) (N := some 65) spec_ApplyFeed.m20 rfl rfl HT_.out ?_
                        refine pur (i := 7) (N := some 66) spec_ApplyFeed.m21 rfl rfl HT_.out ?_
                        refine pur (i := 8) (N := some 67) spec_ApplyFeed.m22 rfl rfl HT_.out ?_
                        refine pur (i := 9) (N := some 68) spec_ApplyFeed.m23 rfl rfl HT_.out ?_
                        refine take_ (i := 5) (N := some 64) (v := ?_) (a' := ?_) spec_ApplyFeed.m24 rfl rfl (take_ofW HT_.out HW_.out (by kernel_rfl)) (fun _ _ _ h => h) (Or.inl ⟨by rfl, ?_⟩) hHeld ?_ ?_
                        rotate_left
                        · rintro w' ⟨s0, s1, s2, s3, s4, s5, s6, s7⟩
                          go_simp
                          with_reducible rfl
                        rotate_left; focus (simp only [Act.put, List.setIfInBounds_toArray, List.set_cons_zero, List.set_cons_succ, i64_w, i32_w]; rfl)
                        refine take_ (i := 10) (N := some 69) (v := ?_) (a' := ?_) spec_ApplyFeed.m25 rfl rfl (take_ofW HT_.out HW_.out (by kernel_rfl)) (fun _ _ _ h => h) (Or.inl ⟨by rfl, ?_⟩) hHeld ?_ ?_
                        rotate_left
                        · rintro w' ⟨s0, s1, s2, s3, s4, s5, s6, s7⟩
                          go_simp
                          with_reducible rfl
                        rotate_left; focus (simp only [Act.put, List.setIfInBounds_toArray, List.set_cons_zero, List.set_cons_succ, i64_w, i32_w]; rfl)
                        refine one_ (i := 11) (N := some 70) spec_ApplyFeed.m26 rfl rfl (one_of HT_.out (by kernel_rfl)) (by decide) (fun K hK => ?_)
                        refine goes_ Try.func93 (by kernel_rfl) rfl #[.slice Ao32 x6_2.length co32, .string ((rd_T75 l1 x7_2).f1), .int .i64 ((rd_T75 l1 x7_2).f3)] (by rfl) rfl rfl (by (try simp only [List.map_toArray, List.map_cons, List.map_nil]); first | done | rfl | (simp only [List.length_drop, List.length_take]; rfl)) ?_
                        with_reducible refine (spec_PairPut.calls k2 _ _ x6_2 ((rd_T75 l1 x7_2).f1) ((rd_T75 l1 x7_2).f3) t209 false _ ?side1 ?side2 A23.out).mono ?_
                        (case side1 => exact spec_ApplyFeed.s0 HO_6.out)
                        (case side2 => exact (Kd.R_reads' HO_6.out).2.1)
                        rintro e w36 ⟨v211, rfl, ho0, hb⟩
                        refine ⟨_, rfl, ?_⟩
                        have n0_ := Aside0.mk (Kd.R_elder' (kr HO_6.out) (Kd.R_base ho0) hb)
                        have n1_ := Aside0.mk (Kd.R_elder' (kr HO205.out) (Kd.R_base ho0) hb)
                        have n2_ := Aside0.mk (Kd.R_lower (Kd.R_new' (Kd.R_new' ho0 (Kd.R_lt (kr HO_6.out))) (Kd.R_lt (kr HO205.out))) (below_size (bp HB.out)))
                        have n3_ := an0 HB hb
                        clear HO_6
                        clear HO205
                        clear HB
                        have HO_6 := n0_
                        have HO205 := n1_
                        have HO212 := n2_
                        have HB := n3_
                        clear n0_ n1_ n2_ n3_
                        (try clear hb)
                        (try clear hb2)
                        (try clear hk)
                        (try clear hi)
                        (try clear ho0)
                        refine hK.out _ _ ⟨(hcx HB hw207_0), (hcx HB hw207_1), (hcx HB hw207_2), (hcx HB hw207_3), (hcx HB hw208_0), (hcx HB hw208_1), (hcx HB hw208_2), (hcx HB hw208_3)⟩ (fun hHeld => ?_)
                        clear hK K
                        refine norm_ (a' := ?_) ?_ ?_
                        rotate_left
                        · show Act.put _ (some 70) _ = _
                          simp only [Act.put, List.setIfInBounds_toArray, List.set_cons_zero, List.set_cons_succ, i64_w, i32_w]
                          rfl
                        refine pur (i := 12) (N := some 58) spec_ApplyFeed.m27 rfl rfl HT_.out ?_
                        refine pur (i := 13) (N := some 71) spec_ApplyFeed.m28 rfl rfl HT_.out ?_
                        refine pur (i := 14) (N := some 72) spec_ApplyFeed.m29 rfl rfl HT_.out ?_
                        refine pur (i := 15) (N := some 8) spec_ApplyFeed.m30 rfl rfl HT_.out ?_
                        refine pur (i := 16) (N := some 9) spec_ApplyFeed.m31 rfl rfl HT_.out ?_
                        refine done_ (done_of HT_.out (by kernel_rfl)) ?_
                        try go_wp2_with (first | ((with_reducible refine gate_dst (N := 75) rfl ?_); refine Kd.R_lit k29 _ 29 ?hg (N := 75) ?hd (xs := ([] : List (S29))) (inner := []) (ok := fun _ => True) (okp := fun _ => True) ?hr ?hp (fun _ hk => hk) trivial (Below.refl _ _) (Nat.le_refl _) (by simp) ?_; (case hd => rfl); (case hg => rfl); (case hr => first | (go_simp; done) | (go_simp; rfl)); (case hp => exact (Reps.none _ _)); intro v214 w37 ho38 hb hg_ hnew_; clear hg_ hnew_; (first | rw [← Ny213.out] at ho38 | (simp only [Int.reduceToNat] at ho38; rw [← Ny213.out] at ho38)); have n0_ := Aside0.mk (Kd.R_elder' (kr HO_6.out) (Kd.R_base ho38) hb); have n1_ := Aside0.mk (Kd.R_elder' (kr HO205.out) (Kd.R_base ho38) hb); have n2_ := Aside0.mk (Kd.R_elder' (kr HO212.out) (Kd.R_base ho38) hb); have n3_ := Aside0.mk (Kd.R_lower (Kd.R_new' (Kd.R_new' (Kd.R_new' ho38 (Kd.R_lt (kr HO_6.out))) (Kd.R_lt (kr HO205.out))) (Kd.R_lt (kr HO212.out))) (below_size (bp HB.out))); have n4_ := an0 HB hb; clear HO_6; clear HO205; clear HO212; clear HB; have HO_6 := n0_; have HO205 := n1_; have HO212 := n2_; have HO215 := n3_; have HB := n4_; clear n0_ n1_ n2_ n3_ n4_; clear hb ho38))
                        go_ret2
                        exact ⟨_, fe, by (with_reducible repeat (first | apply Kd.R_alloc | apply Kd.R_drewN | apply Kd.R_drew)); exact Kd.R_mono HO215.out (fun _ hk => trivial), bp HB.out⟩
                    · rw [if_neg c22] at H
                      have c22b0 : decide (0 ≤ ((rd_T75 l1 x7_2).f3)) = false := decide_eq_false c22
                      clear c22
                      by_cases c39 : t203 = true
                      · subst c39
                        have H1 : (spec_ApplyFeed.l0 k2 l1 t202 (wrap64 (x7_2 + 1))) = some (r1, r2) := by rw [if_pos rfl] at H; exact H
                        clear H
                        have H := H1
                        clear H1
                        have H' := Aside0.mk H
                        clear H
                        try go_wp2
                        have n0_ := Aside0.mk (Kd.R_drew HO_6.out)
                        have n1_ := Aside0.mk (below_drew1 HB.out)
                        clear HO_6
                        clear HB
                        have HO_6 := n0_
                        have HB := n1_
                        clear n0_ n1_
                        have p195 : 0 ≤ (x7_2 : Int) := of_decide_eq_true (by first | (with_reducible assumption) | assumption)
                        have q195 : x7_2 < (l1.length : Int) := of_decide_eq_true (by first | (with_reducible assumption) | assumption)
                        obtain ⟨ad195, e195, hx195_0, hx195_1, hx195_2, hx195_3⟩ := at_T75 HR1.out x7_2 p195 q195
                        have hw195_3 := hx195_3
                        have hw195_2 := hx195_2
                        have hw195_1 := hx195_1
                        have hw195_0 := hx195_0
                        cases e195
                        replace hx195_0 := hcx HB hx195_0
                        replace hx195_1 := hcx HB hx195_1
                        replace hx195_2 := hcx HB hx195_2
                        replace hx195_3 := hcx HB hx195_3
                        replace p195 := eq_true p195
                        replace q195 := eq_true q195
                        have p197 : 0 ≤ (x7_2 : Int) := of_decide_eq_true (by first | (with_reducible assumption) | assumption)
                        have q197 : x7_2 < (l1.length : Int) := of_decide_eq_true (by first | (with_reducible assumption) | assumption)
                        obtain ⟨ad197, e197, hx197_0, hx197_1, hx197_2, hx197_3⟩ := at_T75 HR1.out x7_2 p197 q197
                        have hw197_3 := hx197_3
                        have hw197_2 := hx197_2
                        have hw197_1 := hx197_1
                        have hw197_0 := hx197_0
                        obtain rfl : ad195 = ad197 := (by injection e197)
                        replace hx197_0 := hcx HB hx197_0
                        replace hx197_1 := hcx HB hx197_1
                        replace hx197_2 := hcx HB hx197_2
                        replace hx197_3 := hcx HB hx197_3
                        replace p197 := eq_true p197
                        replace q197 := eq_true q197
                        obtain ⟨Ao41, co41, eo41⟩ := Kd.R_slice HO_6.out
                        (first | subst eo41 | (injection eo41 with f1_ f2_ f3_; have f4_ := f1_.symm; have f5_ := f3_.symm; clear f1_ f2_ f3_; subst f4_; subst f5_))
                        refine start_ (n := 13) (S := fun w' => w'.cell? (ad195.add ((x7_2).toNat * 4)) = some (.int .i64 ((rd_T75 l1 x7_2).f0)) ∧ w'.cell? ⟨(ad195.add ((x7_2).toNat * 4)).block, (ad195.add ((x7_2).toNat * 4)).off + 1, none⟩ = some (.string ((rd_T75 l1 x7_2).f1)) ∧ w'.cell? ⟨(ad195.add ((x7_2).toNat * 4)).block, (ad195.add ((x7_2).toNat * 4)).off + 2, none⟩ = some (.int .i64 ((rd_T75 l1 x7_2).f2)) ∧ w'.cell? ⟨(ad195.add ((x7_2).toNat * 4)).block, (ad195.add ((x7_2).toNat * 4)).off + 3, none⟩ = some (.int .i64 ((rd_T75 l1 x7_2).f3)) ∧ w'.cell? (ad195.add ((x7_2).toNat * 4)) = some (.int .i64 ((rd_T75 l1 x7_2).f0)) ∧ w'.cell? ⟨(ad195.add ((x7_2).toNat * 4)).block, (ad195.add ((x7_2).toNat * 4)).off + 1, none⟩ = some (.string ((rd_T75 l1 x7_2).f1)) ∧ w'.cell? ⟨(ad195.add ((x7_2).toNat * 4)).block, (ad195.add ((x7_2).toNat * 4)).off + 2, none⟩ = some (.int .i64 ((rd_T75 l1 x7_2).f2)) ∧ w'.cell? ⟨(ad195.add ((x7_2).toNat * 4)).block, (ad195.add ((x7_2).toNat * 4)).off + 3, none⟩ = some (.int .i64 ((rd_T75 l1 x7_2).f3))) (ds := []) spec_ApplyFeed.m0 (by kernel_rfl) rfl rfl ⟨(hcx HB hw195_0), (hcx HB hw195_1), (hcx HB hw195_2), (hcx HB hw195_3), (hcx HB hw197_0), (hcx HB hw197_1), (hcx HB hw197_2), (hcx HB hw197_3)⟩ (fun hHeld => ?_); refine with_tabW spec_ApplyFeed.tab7 spec_ApplyFeed.bits7 (fun HT_ HW_ => ?_)
                        generalize wr.drew = w40 at HO_6 HB hx195_0 hx195_1 hx195_2 hx195_3 hx197_0 hx197_1 hx197_2 hx197_3 hHeld ⊢
                        refine pur (i := 0) (N := some 28) spec_ApplyFeed.m1 rfl rfl HT_.out ?_
                        refine pur (i := 1) (N := some 29) spec_ApplyFeed.m2 rfl rfl HT_.out ?_
                        refine pur (i := 2) (N := some 30) spec_ApplyFeed.m3 rfl rfl HT_.out ?_
                        refine pur (i := 3) (N := some 31) spec_ApplyFeed.m4 rfl rfl HT_.out ?_
                        refine pur (i := 4) (N := some 32) spec_ApplyFeed.m5 rfl rfl HT_.out ?_
                        refine pur (i := 7) (N := some 35) spec_ApplyFeed.m6 rfl rfl HT_.out ?_
                        refine pur (i := 8) (N := some 36) spec_ApplyFeed.m7 rfl rfl HT_.out ?_
                        refine pur (i := 9) (N := some 37) spec_ApplyFeed.m8 rfl rfl HT_.out ?_
                        refine pur (i := 10) (N := some 38) spec_ApplyFeed.m9 rfl rfl HT_.out ?_
                        refine take_ (i := 5) (N := some 33) (v := ?_) (a' := ?_) spec_ApplyFeed.m10 rfl rfl (take_ofW HT_.out HW_.out (by kernel_rfl)) (fun _ _ _ h => h) (Or.inl ⟨by rfl, ?_⟩) hHeld ?_ ?_
                        rotate_left
                        · rintro w' ⟨s0, s1, s2, s3, s4, s5, s6, s7⟩
                          go_simp
                          with_reducible rfl
                        rotate_left; focus (simp only [Act.put, List.setIfInBounds_toArray, List.set_cons_zero, List.set_cons_succ, i64_w, i32_w]; rfl)
                        refine take_ (i := 11) (N := some 39) (v := ?_) (a' := ?_) spec_ApplyFeed.m11 rfl rfl (take_ofW HT_.out HW_.out (by kernel_rfl)) (fun _ _ _ h => h) (Or.inl ⟨by rfl, ?_⟩) hHeld ?_ ?_
                        rotate_left
                        · rintro w' ⟨s0, s1, s2, s3, s4, s5, s6, s7⟩
                          go_simp
                          with_reducible rfl
                        rotate_left; focus (simp only [Act.put, List.setIfInBounds_toArray, List.set_cons_zero, List.set_cons_succ, i64_w, i32_w]; rfl)
                        refine one_ (i := 6) (N := some 34) spec_ApplyFeed.m12 rfl rfl (one_of HT_.out (by kernel_rfl)) (by decide) (fun K hK => ?_)
                        refine goes_ Try.func91 (by kernel_rfl) rfl #[.slice Ao41 x6_2.length co41, .string ((rd_T75 l1 x7_2).f1)] (by rfl) rfl rfl (by (try simp only [List.map_toArray, List.map_cons, List.map_nil]); first | done | rfl | (simp only [List.length_drop, List.length_take]; rfl)) ?_
                        with_reducible refine (spec_PairGet.calls k2 _ _ x6_2 ((rd_T75 l1 x7_2).f1) t196 _ ?side1 ?side2 A19.out).mono ?_
                        (case side1 => exact spec_ApplyFeed.s0 HO_6.out)
                        (case side2 => exact (Kd.R_reads' HO_6.out).2.1)
                        rintro e w42 ⟨rfl, hb⟩
                        refine ⟨_, rfl, ?_⟩
                        have n0_ := Aside0.mk (Kd.R_below (kr HO_6.out) hb)
                        have n1_ := an0 HB hb
                        clear HO_6
                        clear HB
                        have HO_6 := n0_
                        have HB := n1_
                        clear n0_ n1_
                        (try clear hb)
                        (try clear hb2)
                        (try clear hk)
                        (try clear hi)
                        refine hK.out _ _ ⟨(hcx HB hw195_0), (hcx HB hw195_1), (hcx HB hw195_2), (hcx HB hw195_3), (hcx HB hw197_0), (hcx HB hw197_1), (hcx HB hw197_2), (hcx HB hw197_3)⟩ (fun hHeld => ?_)
                        clear hK K
                        refine norm_ (a' := ?_) ?_ ?_
                        rotate_left
                        · show Act.put _ (some 34) _ = _
                          simp only [Act.put, List.setIfInBounds_toArray, List.set_cons_zero, List.set_cons_succ, i64_w, i32_w]
                          rfl
                        refine pur (i := 12) (N := some 40) spec_ApplyFeed.m13 rfl rfl HT_.out ?_
                        refine done_ (done_of HT_.out (by kernel_rfl)) ?_
                        have p201 : 0 ≤ (x7_2 : Int) := of_decide_eq_true (by first | (with_reducible assumption) | assumption)
                        have q201 : x7_2 < (l1.length : Int) := of_decide_eq_true (by first | (with_reducible assumption) | assumption)
                        obtain ⟨ad201, e201, hx201_0, hx201_1, hx201_2, hx201_3⟩ := at_T75 HR1.out x7_2 p201 q201
                        obtain rfl : ad195 = ad201 := (by injection e201)
                        replace hx201_0 := hcx HB hx201_0
                        replace hx201_1 := hcx HB hx201_1
                        replace hx201_2 := hcx HB hx201_2
                        replace hx201_3 := hcx HB hx201_3
                        replace p201 := eq_true p201
                        replace q201 := eq_true q201
                        try go_wp2_with (first | ((with_reducible refine gate_callee (f := 92) rfl ?_); refine gsl (some 49) rfl Try.func92 #[.slice Ao41 x6_2.length co41, .string ((rd_T75 l1 x7_2).f1)] rfl ?_; (with_reducible refine (spec_PairDrop.calls k2 _ _ x6_2 ((rd_T75 l1 x7_2).f1) t202 true _ ?side1 ?side2 A21.out).mono ?_); (case side1 => exact spec_ApplyFeed.s0 HO_6.out); (case side2 => exact (Kd.R_reads' HO_6.out).2.1); rintro e w43 ⟨v204, rfl, ho0, hb⟩; refine ⟨_, rfl, ?_⟩; have n0_ := Aside0.mk (Kd.R_elder' (kr HO_6.out) (Kd.R_base ho0) hb); have n1_ := Aside0.mk (Kd.R_lower (Kd.R_new' ho0 (Kd.R_lt (kr HO_6.out))) (below_size (bp HB.out))); have n2_ := an0 HB hb; clear HO_6; clear HB; have HO_6 := n0_; have HO205 := n1_; have HB := n2_; clear n0_ n1_ n2_; (try clear hb); (try clear hb2); (try clear hk); (try clear hi); (try clear ho0); have p206 : 0 ≤ (x7_2 : Int) := of_decide_eq_true (by first | (with_reducible assumption) | assumption); have q206 : x7_2 < (l1.length : Int) := of_decide_eq_true (by first | (with_reducible assumption) | assumption); obtain ⟨ad206, e206, hx206_0, hx206_1, hx206_2, hx206_3⟩ := at_T75 HR1.out x7_2 p206 q206; obtain rfl : ad195 = ad206 := (by injection e206); replace hx206_0 := hcx HB hx206_0; replace hx206_1 := hcx HB hx206_1; replace hx206_2 := hcx HB hx206_2; replace hx206_3 := hcx HB hx206_3; replace p206 := eq_true p206; replace q206 := eq_true q206))
                        go_roundg k2
                        case measure => have := HJ2.out; have := HK2.out; omega
                        case rel => exact ⟨(t202), (wrap64 (x7_2 + 1)), (by first | rfl | (simp; done) | (simp [*]; done) | (simp [bne_nil_, beq_nil_]; done)), H', ⟨by have := HJ2.out; have := HK2.out; omega⟩, ⟨by (with_reducible repeat (first | apply Kd.R_alloc | apply Kd.R_drewN | apply Kd.R_drew)); exact Kd.R_mono HO205.out (fun _ hk => trivial)⟩, ⟨bp HB.out⟩⟩
                      · replace c39 := Bool.eq_false_iff.mpr c39
                        subst c39
                        have H1 : (some ((([] : List (S29))), false)) = some (r1, r2) := by rw [if_neg (show ¬ (false = true) by decide)] at H; exact H
                        clear H
                        have H := H1
                        clear H1
                        obtain ⟨y216, hy216⟩ : ∃ y_ : List (S29), y_ = (([] : List (S29))) := ⟨_, rfl⟩
                        replace H : (some (y216, false)) = some (r1, r2) := by first | (rw [hy216]; with_reducible exact H) | (have H2_ := (Option.bind_some _ _).symm.trans H; rw [hy216]; with_reducible exact H2_) | (have H2_ := (Option.bind_some _ _).symm.trans H; with_reducible exact H2_) | with_reducible exact H | (rw [hy216]; exact H) | exact H
                        have Ny216 := Aside0.mk hy216
                        clear hy216
                        simp only [Option.some.injEq, Prod.mk.injEq] at H
                        obtain ⟨rfl, rfl⟩ := H
                        try go_wp2
                        have n0_ := Aside0.mk (Kd.R_drew HO_6.out)
                        have n1_ := Aside0.mk (below_drew1 HB.out)
                        clear HO_6
                        clear HB
                        have HO_6 := n0_
                        have HB := n1_
                        clear n0_ n1_
                        have p195 : 0 ≤ (x7_2 : Int) := of_decide_eq_true (by first | (with_reducible assumption) | assumption)
                        have q195 : x7_2 < (l1.length : Int) := of_decide_eq_true (by first | (with_reducible assumption) | assumption)
                        obtain ⟨ad195, e195, hx195_0, hx195_1, hx195_2, hx195_3⟩ := at_T75 HR1.out x7_2 p195 q195
                        have hw195_3 := hx195_3
                        have hw195_2 := hx195_2
                        have hw195_1 := hx195_1
                        have hw195_0 := hx195_0
                        cases e195
                        replace hx195_0 := hcx HB hx195_0
                        replace hx195_1 := hcx HB hx195_1
                        replace hx195_2 := hcx HB hx195_2
                        replace hx195_3 := hcx HB hx195_3
                        replace p195 := eq_true p195
                        replace q195 := eq_true q195
                        have p197 : 0 ≤ (x7_2 : Int) := of_decide_eq_true (by first | (with_reducible assumption) | assumption)
                        have q197 : x7_2 < (l1.length : Int) := of_decide_eq_true (by first | (with_reducible assumption) | assumption)
                        obtain ⟨ad197, e197, hx197_0, hx197_1, hx197_2, hx197_3⟩ := at_T75 HR1.out x7_2 p197 q197
                        have hw197_3 := hx197_3
                        have hw197_2 := hx197_2
                        have hw197_1 := hx197_1
                        have hw197_0 := hx197_0
                        obtain rfl : ad195 = ad197 := (by injection e197)
                        replace hx197_0 := hcx HB hx197_0
                        replace hx197_1 := hcx HB hx197_1
                        replace hx197_2 := hcx HB hx197_2
                        replace hx197_3 := hcx HB hx197_3
                        replace p197 := eq_true p197
                        replace q197 := eq_true q197
                        obtain ⟨Ao45, co45, eo45⟩ := Kd.R_slice HO_6.out
                        (first | subst eo45 | (injection eo45 with f1_ f2_ f3_; have f4_ := f1_.symm; have f5_ := f3_.symm; clear f1_ f2_ f3_; subst f4_; subst f5_))
                        refine start_ (n := 13) (S := fun w' => w'.cell? (ad195.add ((x7_2).toNat * 4)) = some (.int .i64 ((rd_T75 l1 x7_2).f0)) ∧ w'.cell? ⟨(ad195.add ((x7_2).toNat * 4)).block, (ad195.add ((x7_2).toNat * 4)).off + 1, none⟩ = some (.string ((rd_T75 l1 x7_2).f1)) ∧ w'.cell? ⟨(ad195.add ((x7_2).toNat * 4)).block, (ad195.add ((x7_2).toNat * 4)).off + 2, none⟩ = some (.int .i64 ((rd_T75 l1 x7_2).f2)) ∧ w'.cell? ⟨(ad195.add ((x7_2).toNat * 4)).block, (ad195.add ((x7_2).toNat * 4)).off + 3, none⟩ = some (.int .i64 ((rd_T75 l1 x7_2).f3)) ∧ w'.cell? (ad195.add ((x7_2).toNat * 4)) = some (.int .i64 ((rd_T75 l1 x7_2).f0)) ∧ w'.cell? ⟨(ad195.add ((x7_2).toNat * 4)).block, (ad195.add ((x7_2).toNat * 4)).off + 1, none⟩ = some (.string ((rd_T75 l1 x7_2).f1)) ∧ w'.cell? ⟨(ad195.add ((x7_2).toNat * 4)).block, (ad195.add ((x7_2).toNat * 4)).off + 2, none⟩ = some (.int .i64 ((rd_T75 l1 x7_2).f2)) ∧ w'.cell? ⟨(ad195.add ((x7_2).toNat * 4)).block, (ad195.add ((x7_2).toNat * 4)).off + 3, none⟩ = some (.int .i64 ((rd_T75 l1 x7_2).f3))) (ds := []) spec_ApplyFeed.m0 (by kernel_rfl) rfl rfl ⟨(hcx HB hw195_0), (hcx HB hw195_1), (hcx HB hw195_2), (hcx HB hw195_3), (hcx HB hw197_0), (hcx HB hw197_1), (hcx HB hw197_2), (hcx HB hw197_3)⟩ (fun hHeld => ?_); refine with_tabW spec_ApplyFeed.tab7 spec_ApplyFeed.bits7 (fun HT_ HW_ => ?_)
                        generalize wr.drew = w44 at HO_6 HB hx195_0 hx195_1 hx195_2 hx195_3 hx197_0 hx197_1 hx197_2 hx197_3 hHeld ⊢
                        refine pur (i := 0) (N := some 28) spec_ApplyFeed.m1 rfl rfl HT_.out ?_
                        refine pur (i := 1) (N := some 29) spec_ApplyFeed.m2 rfl rfl HT_.out ?_
                        refine pur (i := 2) (N := some 30) spec_ApplyFeed.m3 rfl rfl HT_.out ?_
                        refine pur (i := 3) (N := some 31) spec_ApplyFeed.m4 rfl rfl HT_.out ?_
                        refine pur (i := 4) (N := some 32) spec_ApplyFeed.m5 rfl rfl HT_.out ?_
                        refine pur (i := 7) (N := some 35) spec_ApplyFeed.m6 rfl rfl HT_.out ?_
                        refine pur (i := 8) (N := some 36) spec_ApplyFeed.m7 rfl rfl HT_.out ?_
                        refine pur (i := 9) (N := some 37) spec_ApplyFeed.m8 rfl rfl HT_.out ?_
                        refine pur (i := 10) (N := some 38) spec_ApplyFeed.m9 rfl rfl HT_.out ?_
                        refine take_ (i := 5) (N := some 33) (v := ?_) (a' := ?_) spec_ApplyFeed.m10 rfl rfl (take_ofW HT_.out HW_.out (by kernel_rfl)) (fun _ _ _ h => h) (Or.inl ⟨by rfl, ?_⟩) hHeld ?_ ?_
                        rotate_left
                        · rintro w' ⟨s0, s1, s2, s3, s4, s5, s6, s7⟩
                          go_simp
                          with_reducible rfl
                        rotate_left; focus (simp only [Act.put, List.setIfInBounds_toArray, List.set_cons_zero, List.set_cons_succ, i64_w, i32_w]; rfl)
                        refine take_ (i := 11) (N := some 39) (v := ?_) (a' := ?_) spec_ApplyFeed.m11 rfl rfl (take_ofW HT_.out HW_.out (by kernel_rfl)) (fun _ _ _ h => h) (Or.inl ⟨by rfl, ?_⟩) hHeld ?_ ?_
                        rotate_left
                        · rintro w' ⟨s0, s1, s2, s3, s4, s5, s6, s7⟩
                          go_simp
                          with_reducible rfl
                        rotate_left; focus (simp only [Act.put, List.setIfInBounds_toArray, List.set_cons_zero, List.set_cons_succ, i64_w, i32_w]; rfl)
                        refine one_ (i := 6) (N := some 34) spec_ApplyFeed.m12 rfl rfl (one_of HT_.out (by kernel_rfl)) (by decide) (fun K hK => ?_)
                        refine goes_ Try.func91 (by kernel_rfl) rfl #[.slice Ao45 x6_2.length co45, .string ((rd_T75 l1 x7_2).f1)] (by rfl) rfl rfl (by (try simp only [List.map_toArray, List.map_cons, List.map_nil]); first | done | rfl | (simp only [List.length_drop, List.length_take]; rfl)) ?_
                        with_reducible refine (spec_PairGet.calls k2 _ _ x6_2 ((rd_T75 l1 x7_2).f1) t196 _ ?side1 ?side2 A19.out).mono ?_
                        (case side1 => exact spec_ApplyFeed.s0 HO_6.out)
                        (case side2 => exact (Kd.R_reads' HO_6.out).2.1)
                        rintro e w46 ⟨rfl, hb⟩
                        refine ⟨_, rfl, ?_⟩
                        have n0_ := Aside0.mk (Kd.R_below (kr HO_6.out) hb)
                        have n1_ := an0 HB hb
                        clear HO_6
                        clear HB
                        have HO_6 := n0_
                        have HB := n1_
                        clear n0_ n1_
                        (try clear hb)
                        (try clear hb2)
                        (try clear hk)
                        (try clear hi)
                        refine hK.out _ _ ⟨(hcx HB hw195_0), (hcx HB hw195_1), (hcx HB hw195_2), (hcx HB hw195_3), (hcx HB hw197_0), (hcx HB hw197_1), (hcx HB hw197_2), (hcx HB hw197_3)⟩ (fun hHeld => ?_)
                        clear hK K
                        refine norm_ (a' := ?_) ?_ ?_
                        rotate_left
                        · show Act.put _ (some 34) _ = _
                          simp only [Act.put, List.setIfInBounds_toArray, List.set_cons_zero, List.set_cons_succ, i64_w, i32_w]
                          rfl
                        refine pur (i := 12) (N := some 40) spec_ApplyFeed.m13 rfl rfl HT_.out ?_
                        refine done_ (done_of HT_.out (by kernel_rfl)) ?_
                        have p201 : 0 ≤ (x7_2 : Int) := of_decide_eq_true (by first | (with_reducible assumption) | assumption)
                        have q201 : x7_2 < (l1.length : Int) := of_decide_eq_true (by first | (with_reducible assumption) | assumption)
                        obtain ⟨ad201, e201, hx201_0, hx201_1, hx201_2, hx201_3⟩ := at_T75 HR1.out x7_2 p201 q201
                        obtain rfl : ad195 = ad201 := (by injection e201)
                        replace hx201_0 := hcx HB hx201_0
                        replace hx201_1 := hcx HB hx201_1
                        replace hx201_2 := hcx HB hx201_2
                        replace hx201_3 := hcx HB hx201_3
                        replace p201 := eq_true p201
                        replace q201 := eq_true q201
                        try go_wp2_with (first | ((with_reducible refine gate_callee (f := 92) rfl ?_); refine gsl (some 49) rfl Try.func92 #[.slice Ao45 x6_2.length co45, .string ((rd_T75 l1 x7_2).f1)] rfl ?_; (with_reducible refine (spec_PairDrop.calls k2 _ _ x6_2 ((rd_T75 l1 x7_2).f1) t202 false _ ?side1 ?side2 A21.out).mono ?_); (case side1 => exact spec_ApplyFeed.s0 HO_6.out); (case side2 => exact (Kd.R_reads' HO_6.out).2.1); rintro e w47 ⟨v204, rfl, ho0, hb⟩; refine ⟨_, rfl, ?_⟩; have n0_ := Aside0.mk (Kd.R_elder' (kr HO_6.out) (Kd.R_base ho0) hb); have n1_ := Aside0.mk (Kd.R_lower (Kd.R_new' ho0 (Kd.R_lt (kr HO_6.out))) (below_size (bp HB.out))); have n2_ := an0 HB hb; clear HO_6; clear HB; have HO_6 := n0_; have HO205 := n1_; have HB := n2_; clear n0_ n1_ n2_; (try clear hb); (try clear hb2); (try clear hk); (try clear hi); (try clear ho0); have p206 : 0 ≤ (x7_2 : Int) := of_decide_eq_true (by first | (with_reducible assumption) | assumption); have q206 : x7_2 < (l1.length : Int) := of_decide_eq_true (by first | (with_reducible assumption) | assumption); obtain ⟨ad206, e206, hx206_0, hx206_1, hx206_2, hx206_3⟩ := at_T75 HR1.out x7_2 p206 q206; obtain rfl : ad195 = ad206 := (by injection e206); replace hx206_0 := hcx HB hx206_0; replace hx206_1 := hcx HB hx206_1; replace hx206_2 := hcx HB hx206_2; replace hx206_3 := hcx HB hx206_3; replace p206 := eq_true p206; replace q206 := eq_true q206) | ((with_reducible refine gate_dst (N := 75) rfl ?_); refine Kd.R_lit k29 _ 29 ?hg (N := 75) ?hd (xs := ([] : List (S29))) (inner := []) (ok := fun _ => True) (okp := fun _ => True) ?hr ?hp (fun _ hk => hk) trivial (Below.refl _ _) (Nat.le_refl _) (by simp) ?_; (case hd => rfl); (case hg => rfl); (case hr => first | (go_simp; done) | (go_simp; rfl)); (case hp => exact (Reps.none _ _)); intro v217 w48 ho49 hb hg_ hnew_; clear hg_ hnew_; (first | rw [← Ny216.out] at ho49 | (simp only [Int.reduceToNat] at ho49; rw [← Ny216.out] at ho49)); have n0_ := Aside0.mk (Kd.R_elder' (kr HO_6.out) (Kd.R_base ho49) hb); have n1_ := Aside0.mk (Kd.R_elder' (kr HO205.out) (Kd.R_base ho49) hb); have n2_ := Aside0.mk (Kd.R_lower (Kd.R_new' (Kd.R_new' ho49 (Kd.R_lt (kr HO_6.out))) (Kd.R_lt (kr HO205.out))) (below_size (bp HB.out))); have n3_ := an0 HB hb; clear HO_6; clear HO205; clear HB; have HO_6 := n0_; have HO205 := n1_; have HO218 := n2_; have HB := n3_; clear n0_ n1_ n2_ n3_; clear hb ho49))
                        go_ret2
                        exact ⟨_, fe, by (with_reducible repeat (first | apply Kd.R_alloc | apply Kd.R_drewN | apply Kd.R_drew)); exact Kd.R_mono HO218.out (fun _ hk => trivial), bp HB.out⟩
                  · rw [if_neg c20] at H
                    have c20b0 : (t196 == ((rd_T75 l1 x7_2).f2)) = false := beq_eq_false_iff_ne.mpr c20
                    have c20b1 : (t196 != ((rd_T75 l1 x7_2).f2)) = true := bne_iff_ne.mpr c20
                    obtain ⟨y198, hy198⟩ : ∃ y_ : List (S29), y_ = (([] : List (S29))) := ⟨_, rfl⟩
                    replace H : (some (y198, false)) = some (r1, r2) := by first | (rw [hy198]; with_reducible exact H) | (have H2_ := (Option.bind_some _ _).symm.trans H; rw [hy198]; with_reducible exact H2_) | (have H2_ := (Option.bind_some _ _).symm.trans H; with_reducible exact H2_) | with_reducible exact H | (rw [hy198]; exact H) | exact H
                    have Ny198 := Aside0.mk hy198
                    clear hy198
                    simp only [Option.some.injEq, Prod.mk.injEq] at H
                    obtain ⟨rfl, rfl⟩ := H
                    try go_wp2
                    have n0_ := Aside0.mk (Kd.R_drew HO_6.out)
                    have n1_ := Aside0.mk (below_drew1 HB.out)
                    clear HO_6
                    clear HB
                    have HO_6 := n0_
                    have HB := n1_
                    clear n0_ n1_
                    have p195 : 0 ≤ (x7_2 : Int) := of_decide_eq_true (by first | (with_reducible assumption) | assumption)
                    have q195 : x7_2 < (l1.length : Int) := of_decide_eq_true (by first | (with_reducible assumption) | assumption)
                    obtain ⟨ad195, e195, hx195_0, hx195_1, hx195_2, hx195_3⟩ := at_T75 HR1.out x7_2 p195 q195
                    have hw195_3 := hx195_3
                    have hw195_2 := hx195_2
                    have hw195_1 := hx195_1
                    have hw195_0 := hx195_0
                    cases e195
                    replace hx195_0 := hcx HB hx195_0
                    replace hx195_1 := hcx HB hx195_1
                    replace hx195_2 := hcx HB hx195_2
                    replace hx195_3 := hcx HB hx195_3
                    replace p195 := eq_true p195
                    replace q195 := eq_true q195
                    have p197 : 0 ≤ (x7_2 : Int) := of_decide_eq_true (by first | (with_reducible assumption) | assumption)
                    have q197 : x7_2 < (l1.length : Int) := of_decide_eq_true (by first | (with_reducible assumption) | assumption)
                    obtain ⟨ad197, e197, hx197_0, hx197_1, hx197_2, hx197_3⟩ := at_T75 HR1.out x7_2 p197 q197
                    have hw197_3 := hx197_3
                    have hw197_2 := hx197_2
                    have hw197_1 := hx197_1
                    have hw197_0 := hx197_0
                    obtain rfl : ad195 = ad197 := (by injection e197)
                    replace hx197_0 := hcx HB hx197_0
                    replace hx197_1 := hcx HB hx197_1
                    replace hx197_2 := hcx HB hx197_2
                    replace hx197_3 := hcx HB hx197_3
                    replace p197 := eq_true p197
                    replace q197 := eq_true q197
                    obtain ⟨Ao51, co51, eo51⟩ := Kd.R_slice HO_6.out
                    (first | subst eo51 | (injection eo51 with f1_ f2_ f3_; have f4_ := f1_.symm; have f5_ := f3_.symm; clear f1_ f2_ f3_; subst f4_; subst f5_))
                    refine start_ (n := 13) (S := fun w' => w'.cell? (ad195.add ((x7_2).toNat * 4)) = some (.int .i64 ((rd_T75 l1 x7_2).f0)) ∧ w'.cell? ⟨(ad195.add ((x7_2).toNat * 4)).block, (ad195.add ((x7_2).toNat * 4)).off + 1, none⟩ = some (.string ((rd_T75 l1 x7_2).f1)) ∧ w'.cell? ⟨(ad195.add ((x7_2).toNat * 4)).block, (ad195.add ((x7_2).toNat * 4)).off + 2, none⟩ = some (.int .i64 ((rd_T75 l1 x7_2).f2)) ∧ w'.cell? ⟨(ad195.add ((x7_2).toNat * 4)).block, (ad195.add ((x7_2).toNat * 4)).off + 3, none⟩ = some (.int .i64 ((rd_T75 l1 x7_2).f3)) ∧ w'.cell? (ad195.add ((x7_2).toNat * 4)) = some (.int .i64 ((rd_T75 l1 x7_2).f0)) ∧ w'.cell? ⟨(ad195.add ((x7_2).toNat * 4)).block, (ad195.add ((x7_2).toNat * 4)).off + 1, none⟩ = some (.string ((rd_T75 l1 x7_2).f1)) ∧ w'.cell? ⟨(ad195.add ((x7_2).toNat * 4)).block, (ad195.add ((x7_2).toNat * 4)).off + 2, none⟩ = some (.int .i64 ((rd_T75 l1 x7_2).f2)) ∧ w'.cell? ⟨(ad195.add ((x7_2).toNat * 4)).block, (ad195.add ((x7_2).toNat * 4)).off + 3, none⟩ = some (.int .i64 ((rd_T75 l1 x7_2).f3))) (ds := []) spec_ApplyFeed.m0 (by kernel_rfl) rfl rfl ⟨(hcx HB hw195_0), (hcx HB hw195_1), (hcx HB hw195_2), (hcx HB hw195_3), (hcx HB hw197_0), (hcx HB hw197_1), (hcx HB hw197_2), (hcx HB hw197_3)⟩ (fun hHeld => ?_); refine with_tabW spec_ApplyFeed.tab7 spec_ApplyFeed.bits7 (fun HT_ HW_ => ?_)
                    generalize wr.drew = w50 at HO_6 HB hx195_0 hx195_1 hx195_2 hx195_3 hx197_0 hx197_1 hx197_2 hx197_3 hHeld ⊢
                    refine pur (i := 0) (N := some 28) spec_ApplyFeed.m1 rfl rfl HT_.out ?_
                    refine pur (i := 1) (N := some 29) spec_ApplyFeed.m2 rfl rfl HT_.out ?_
                    refine pur (i := 2) (N := some 30) spec_ApplyFeed.m3 rfl rfl HT_.out ?_
                    refine pur (i := 3) (N := some 31) spec_ApplyFeed.m4 rfl rfl HT_.out ?_
                    refine pur (i := 4) (N := some 32) spec_ApplyFeed.m5 rfl rfl HT_.out ?_
                    refine pur (i := 7) (N := some 35) spec_ApplyFeed.m6 rfl rfl HT_.out ?_
                    refine pur (i := 8) (N := some 36) spec_ApplyFeed.m7 rfl rfl HT_.out ?_
                    refine pur (i := 9) (N := some 37) spec_ApplyFeed.m8 rfl rfl HT_.out ?_
                    refine pur (i := 10) (N := some 38) spec_ApplyFeed.m9 rfl rfl HT_.out ?_
                    refine take_ (i := 5) (N := some 33) (v := ?_) (a' := ?_) spec_ApplyFeed.m10 rfl rfl (take_ofW HT_.out HW_.out (by kernel_rfl)) (fun _ _ _ h => h) (Or.inl ⟨by rfl, ?_⟩) hHeld ?_ ?_
                    rotate_left
                    · rintro w' ⟨s0, s1, s2, s3, s4, s5, s6, s7⟩
                      go_simp
                      with_reducible rfl
                    rotate_left; focus (simp only [Act.put, List.setIfInBounds_toArray, List.set_cons_zero, List.set_cons_succ, i64_w, i32_w]; rfl)
                    refine take_ (i := 11) (N := some 39) (v := ?_) (a' := ?_) spec_ApplyFeed.m11 rfl rfl (take_ofW HT_.out HW_.out (by kernel_rfl)) (fun _ _ _ h => h) (Or.inl ⟨by rfl, ?_⟩) hHeld ?_ ?_
                    rotate_left
                    · rintro w' ⟨s0, s1, s2, s3, s4, s5, s6, s7⟩
                      go_simp
                      with_reducible rfl
                    rotate_left; focus (simp only [Act.put, List.setIfInBounds_toArray, List.set_cons_zero, List.set_cons_succ, i64_w, i32_w]; rfl)
                    refine one_ (i := 6) (N := some 34) spec_ApplyFeed.m12 rfl rfl (one_of HT_.out (by kernel_rfl)) (by decide) (fun K hK => ?_)
                    refine goes_ Try.func91 (by kernel_rfl) rfl #[.slice Ao51 x6_2.length co51, .string ((rd_T75 l1 x7_2).f1)] (by rfl) rfl rfl (by (try simp only [List.map_toArray, List.map_cons, List.map_nil]); first | done | rfl | (simp only [List.length_drop, List.length_take]; rfl)) ?_
                    with_reducible refine (spec_PairGet.calls k2 _ _ x6_2 ((rd_T75 l1 x7_2).f1) t196 _ ?side1 ?side2 A19.out).mono ?_
                    (case side1 => exact spec_ApplyFeed.s0 HO_6.out)
                    (case side2 => exact (Kd.R_reads' HO_6.out).2.1)
                    rintro e w52 ⟨rfl, hb⟩
                    refine ⟨_, rfl, ?_⟩
                    have n0_ := Aside0.mk (Kd.R_below (kr HO_6.out) hb)
                    have n1_ := an0 HB hb
                    clear HO_6
                    clear HB
                    have HO_6 := n0_
                    have HB := n1_
                    clear n0_ n1_
                    (try clear hb)
                    (try clear hb2)
                    (try clear hk)
                    (try clear hi)
                    refine hK.out _ _ ⟨(hcx HB hw195_0), (hcx HB hw195_1), (hcx HB hw195_2), (hcx HB hw195_3), (hcx HB hw197_0), (hcx HB hw197_1), (hcx HB hw197_2), (hcx HB hw197_3)⟩ (fun hHeld => ?_)
                    clear hK K
                    refine norm_ (a' := ?_) ?_ ?_
                    rotate_left
                    · show Act.put _ (some 34) _ = _
                      simp only [Act.put, List.setIfInBounds_toArray, List.set_cons_zero, List.set_cons_succ, i64_w, i32_w]
                      rfl
                    refine pur (i := 12) (N := some 40) spec_ApplyFeed.m13 rfl rfl HT_.out ?_
                    refine done_ (done_of HT_.out (by kernel_rfl)) ?_
                    try go_wp2_with (first | ((with_reducible refine gate_dst (N := 41) rfl ?_); refine Kd.R_lit k29 _ 29 ?hg (N := 41) ?hd (xs := ([] : List (S29))) (inner := []) (ok := fun _ => True) (okp := fun _ => True) ?hr ?hp (fun _ hk => hk) trivial (Below.refl _ _) (Nat.le_refl _) (by simp) ?_; (case hd => rfl); (case hg => rfl); (case hr => first | (go_simp; done) | (go_simp; rfl)); (case hp => exact (Reps.none _ _)); intro v199 w53 ho54 hb hg_ hnew_; clear hg_ hnew_; (first | rw [← Ny198.out] at ho54 | (simp only [Int.reduceToNat] at ho54; rw [← Ny198.out] at ho54)); have n0_ := Aside0.mk (Kd.R_elder' (kr HO_6.out) (Kd.R_base ho54) hb); have n1_ := Aside0.mk (Kd.R_lower (Kd.R_new' ho54 (Kd.R_lt (kr HO_6.out))) (below_size (bp HB.out))); have n2_ := an0 HB hb; clear HO_6; clear HB; have HO_6 := n0_; have HO200 := n1_; have HB := n2_; clear n0_ n1_ n2_; clear hb ho54))
                    go_ret2
                    exact ⟨_, fe, by (with_reducible repeat (first | apply Kd.R_alloc | apply Kd.R_drewN | apply Kd.R_drew)); exact Kd.R_mono HO200.out (fun _ hk => trivial), bp HB.out⟩
                · rw [if_neg c18] at H
                  exact absurd H (by simp)
              · rw [if_neg c17] at H
                have c17b0 : decide (x7_2 < (l1.length : Int)) = false := decide_eq_false c17
                clear c17
                simp only [Option.some.injEq, Prod.mk.injEq] at H
                obtain ⟨rfl, rfl⟩ := H
                go_wp2
                go_ret2
                exact ⟨_, fe, by (with_reducible repeat (first | apply Kd.R_alloc | apply Kd.R_drewN | apply Kd.R_drew)); exact HO_6.out, bp HB.out⟩
        · rw [if_neg c13] at H
          exact absurd H (by simp)

end Go.Proofs.Ytfeeifefmenlmaa.PFnExactApplyFeed
