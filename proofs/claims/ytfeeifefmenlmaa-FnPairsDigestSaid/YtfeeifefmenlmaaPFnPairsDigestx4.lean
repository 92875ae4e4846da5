-- Written by a program of this session, in the manner of the kit's print (wip/pp.py): functions and their contracts.
import Derived.Test.YtfeeifefmenlmaaPFnPairsDigestx0
import Derived.Test.YtfeeifefmenlmaaPFnPairsDigestx1
import Derived.Test.YtfeeifefmenlmaaPFnPairsDigestx3
namespace Go.Proofs.Ytfeeifefmenlmaa.PFnPairsDigest
open Go.RowKit Go.Proofs.YtfeeifefmenlmaaW.PrintWords Go.Proofs.YtfeeifefmenlmaaW.PrintLast Go.Proofs.YtfeeifefmenlmaaW.PrintMore
attribute [local go_sem] binOp_leq_str binOp_gtr_str binOp_geq_str max2_int min2_int max_two min_two max_three min_three max_four min_four   -- for this text's walks alone
set_option linter.unusedVariables false
set_option linter.unusedSimpArgs false

/-! ### spec_KeyAt: function 124 -/
def spec_KeyAt.l0 : Nat → Int → ByteArray → Int → Option (ByteArray)
  | 0, _, _, _ => none
  | k + 1, x0, x3, x4 => if x4 < 4 then ((spec_l1Weight.f x4).bind fun t186 => (if t186 = 0 then (none) else ((some (([(wrap64 (97 + (wrap64 (Int.tdiv x0 t186)))) % 256] : List Int) : List Int)).bind fun y187 => (if x3.size + (strOfNums y187).size ≤ 9223372036854775807 then ((spec_l1Weight.f x4).bind fun t190 => (if t190 = 0 then (none) else (if (Int.tmod x0 t190) = 0 then (some (x3 ++ (strOfNums y187))) else (spec_KeyAt.l0 k (wrap64 ((Int.tmod x0 t190) - 1)) (x3 ++ (strOfNums y187)) (wrap64 (x4 + 1)))))) else (none))))) else (some x3)
def spec_KeyAt.f (k : Nat) (a0 : Int) : Option (ByteArray) := (spec_l1In.f a0 0 475253).bind fun t185 => (if t185 = true then (spec_KeyAt.l0 k a0 (⟨#[]⟩ : ByteArray) 0) else (some (⟨#[]⟩ : ByteArray)))
theorem spec_KeyAt.mono_l : ∀ k, (∀ y0 y1 y2, LeO (spec_KeyAt.l0 k y0 y1 y2) (spec_KeyAt.l0 (k + 1) y0 y1 y2))
  | 0 => fun _ _ _ r h => by simp [spec_KeyAt.l0] at h
  | k + 1 => by
    have ih0 := spec_KeyAt.mono_l k
    · intro y0 y1 y2
      unfold spec_KeyAt.l0
      repeat' first
      | (with_reducible exact ih0 _ _ _)
      | (with_reducible exact LeO.refl _)
      | (with_reducible exact LeO.none _)
      | (with_reducible refine LeO.ite ?_ ?_)
      | (with_reducible refine LeO.bind ?_ (fun _ => ?_))
      | exact ih0 _ _ _
      | exact LeO.none _
      | refine LeO.ite ?_ ?_
      | refine LeO.bind ?_ (fun _ => ?_)
theorem spec_KeyAt.mono : ∀ a0 k, LeO (spec_KeyAt.f k a0) (spec_KeyAt.f (k + 1) a0) := by
  intro a0 k
  have ih0 := spec_KeyAt.mono_l k
  unfold spec_KeyAt.f
  repeat' first
      | (with_reducible exact ih0 _ _ _)
      | (with_reducible exact LeO.refl _)
      | (with_reducible exact LeO.none _)
      | (with_reducible refine LeO.ite ?_ ?_)
      | (with_reducible refine LeO.bind ?_ (fun _ => ?_))
      | exact ih0 _ _ _
      | exact LeO.none _
      | refine LeO.ite ?_ ?_
      | refine LeO.bind ?_ (fun _ => ?_)
set_option maxHeartbeats 8000000 in
set_option maxRecDepth 100000 in
theorem spec_KeyAt.calls (k : Nat) (a0 : Int) (r : ByteArray) (w : World) (h : spec_KeyAt.f k a0 = some r) :
    Calls Try.prog 124 #[.int .i64 a0] w fun e w' => e = .returned (.string r) ∧ Below w.heap.size w w' := by
  have HB := Aside0.mk (Below.refl w.heap.size w)
  have H : ((spec_l1In.f a0 0 475253).bind fun t185 => (if t185 = true then (spec_KeyAt.l0 k a0 (⟨#[]⟩ : ByteArray) 0) else (some (⟨#[]⟩ : ByteArray)))) = some r := h
  clear h
  replace H := Option.bind_eq_some_iff.mp H
  obtain ⟨t185, A20, H⟩ := H
  replace H : (if t185 = true then (spec_KeyAt.l0 k a0 (⟨#[]⟩ : ByteArray) 0) else (some (⟨#[]⟩ : ByteArray))) = some r := H
  have A2 := Aside0.mk A20
  clear A20
  by_cases c3 : t185 = true
  · subst c3
    have H1 : (spec_KeyAt.l0 k a0 (⟨#[]⟩ : ByteArray) 0) = some r := by rw [if_pos rfl] at H; exact H
    clear H
    have H := H1
    clear H1
    have H' := Aside0.mk H
    clear H
    go_enter Try.func124, Try.ntmps124
    go_wp2_with (first | ((with_reducible refine gate_callee (f := 112) rfl ?_); refine gsl (some 6) rfl Try.func112 #[.int .i64 a0, .int .i64 0, .int .i64 475253] rfl ?_; (with_reducible refine (spec_l1In.calls a0 0 475253 true _ A2.out).mono ?_); rintro e w' ⟨rfl, ⟨nd, rfl⟩⟩; refine ⟨_, rfl, ?_⟩))
    go_loopg [0, 3, 4] k (fun kq v0 v3 v4 w' => ∃ (x0_1 : Int) (x3_1 : ByteArray) (x4_1 : Int), v0 = .int .i64 x0_1 ∧ v3 = .string x3_1 ∧ v4 = .int .i64 x4_1 ∧ Aside0 (spec_KeyAt.l0 kq x0_1 x3_1 x4_1 = some r) ∧ Aside0 (kq ≤ k) ∧ Aside0 (Below w.heap.size w w'))
    case atStart => exact ⟨(a0), ((⟨#[]⟩ : ByteArray)), (0), (by first | rfl | (simp; done) | (simp [*]; done) | (simp [bne_nil_, beq_nil_]; done)), (by first | rfl | (simp; done) | (simp [*]; done) | (simp [bne_nil_, beq_nil_]; done)), (by first | rfl | (simp; done) | (simp [*]; done) | (simp [bne_nil_, beq_nil_]; done)), H', ⟨Nat.le_refl _⟩, ⟨bp HB.out⟩⟩
    case round =>
      clear H'
      try clear c1
      try clear p2
      try clear c3
      obtain ⟨x0_1, x3_1, x4_1, rfl, rfl, rfl, HA, HK1, HB⟩ := hrel
      cases gk with
      | zero => exact absurd HA.out (by simp [spec_KeyAt.l0])
      | succ k1 =>
        have H := HA.out
        clear HA
        simp only [spec_KeyAt.l0] at H
        by_cases c4 : x4_1 < 4
        · rw [if_pos c4] at H
          have c4b0 : decide (x4_1 < 4) = true := decide_eq_true c4
          clear c4
          replace H := Option.bind_eq_some_iff.mp H
          obtain ⟨t186, A50, H⟩ := H
          replace H : (if t186 = 0 then (none) else ((some (([(wrap64 (97 + (wrap64 (Int.tdiv x0_1 t186)))) % 256] : List Int) : List Int)).bind fun y187 => (if x3_1.size + (strOfNums y187).size ≤ 9223372036854775807 then ((spec_l1Weight.f x4_1).bind fun t190 => (if t190 = 0 then (none) else (if (Int.tmod x0_1 t190) = 0 then (some (x3_1 ++ (strOfNums y187))) else (spec_KeyAt.l0 k1 (wrap64 ((Int.tmod x0_1 t190) - 1)) (x3_1 ++ (strOfNums y187)) (wrap64 (x4_1 + 1)))))) else (none)))) = some r := H
          have A5 := Aside0.mk A50
          clear A50
          by_cases c6 : t186 = 0
          · rw [if_pos c6] at H
            exact absurd H (by simp)
          · rw [if_neg c6] at H
            have c6b0 : (t186 == 0) = false := beq_eq_false_iff_ne.mpr c6
            have c6b1 : (t186 != 0) = true := bne_iff_ne.mpr c6
            obtain ⟨y187, hy187⟩ : ∃ y_ : List Int, y_ = (([(wrap64 (97 + (wrap64 (Int.tdiv x0_1 t186)))) % 256] : List Int)) := ⟨_, rfl⟩
            replace H : (if x3_1.size + (strOfNums y187).size ≤ 9223372036854775807 then ((spec_l1Weight.f x4_1).bind fun t190 => (if t190 = 0 then (none) else (if (Int.tmod x0_1 t190) = 0 then (some (x3_1 ++ (strOfNums y187))) else (spec_KeyAt.l0 k1 (wrap64 ((Int.tmod x0_1 t190) - 1)) (x3_1 ++ (strOfNums y187)) (wrap64 (x4_1 + 1)))))) else (none)) = some r := by first | (rw [hy187]; with_reducible exact H) | (have H2_ := (Option.bind_some _ _).symm.trans H; rw [hy187]; with_reducible exact H2_) | (have H2_ := (Option.bind_some _ _).symm.trans H; with_reducible exact H2_) | with_reducible exact H | (rw [hy187]; exact H) | exact H
            have Ny187 := Aside0.mk hy187
            clear hy187
            by_cases c7 : x3_1.size + (strOfNums y187).size ≤ 9223372036854775807
            · rw [if_pos c7] at H
              have c7b0 := eq_true c7
              have c7b1 : decide (x3_1.size + (strOfNums y187).size ≤ 9223372036854775807) = true := decide_eq_true c7
              try have c7b2 : (9223372036854775807 < x3_1.size + (strOfNums y187).size) = False := eq_false (Nat.not_lt.2 c7)
              replace H := Option.bind_eq_some_iff.mp H
              obtain ⟨t190, A80, H⟩ := H
              replace H : (if t190 = 0 then (none) else (if (Int.tmod x0_1 t190) = 0 then (some (x3_1 ++ (strOfNums y187))) else (spec_KeyAt.l0 k1 (wrap64 ((Int.tmod x0_1 t190) - 1)) (x3_1 ++ (strOfNums y187)) (wrap64 (x4_1 + 1))))) = some r := H
              have A8 := Aside0.mk A80
              clear A80
              by_cases c9 : t190 = 0
              · rw [if_pos c9] at H
                exact absurd H (by simp)
              · rw [if_neg c9] at H
                have c9b0 : (t190 == 0) = false := beq_eq_false_iff_ne.mpr c9
                have c9b1 : (t190 != 0) = true := bne_iff_ne.mpr c9
                by_cases c10 : (Int.tmod x0_1 t190) = 0
                · rw [if_pos c10] at H
                  have c10b0 : ((Int.tmod x0_1 t190) == 0) = true := beq_iff_eq.mpr c10
                  have c10b1 : ((Int.tmod x0_1 t190) != 0) = false := bne_eq_false_iff_eq.mpr c10
                  clear c10
                  obtain rfl := Option.some.inj H
                  go_wp2_with (first | ((with_reducible refine gate_callee (f := 158) rfl ?_); refine gsl (some 15) rfl Try.func158 #[.int .i64 x4_1] rfl ?_; (with_reducible refine (spec_l1Weight.calls x4_1 t186 _ A5.out).mono ?_); rintro e w' ⟨rfl, ⟨nd, rfl⟩⟩; refine ⟨_, rfl, ?_⟩) | ((with_reducible refine gate_dst (N := 19) rfl ?_); refine Kd.R_lit (Kd.int .u8) _ 5 ?hg (N := 19) ?hd (xs := ([(wrap64 (97 + (wrap64 (Int.tdiv x0_1 t186)))) % 256] : List Int)) (inner := [.int .u8 ((wrap64 (97 + (wrap64 (Int.tdiv x0_1 t186)))) % 256)]) (ok := fun _ => True) (okp := fun _ => True) ?hr ?hp (fun _ hk => hk) trivial (Below.refl _ _) (Nat.le_refl _) (by simp) ?_; (case hd => rfl); (case hg => rfl); (case hr => first | (go_simp; done) | (go_simp; rfl)); (case hp => exact (Reps.one (show Kd.M (Kd.int .u8) _ _ _ ((wrap64 (97 + (wrap64 (Int.tdiv x0_1 t186)))) % 256) [.int .u8 ((wrap64 (97 + (wrap64 (Int.tdiv x0_1 t186)))) % 256)] from rfl) (Reps.none _ _))); intro v188 w11 ho12 hb hg_ hnew_; clear hg_ hnew_; (first | rw [← Ny187.out] at ho12 | (simp only [Int.reduceToNat] at ho12; rw [← Ny187.out] at ho12)); have n0_ := Aside0.mk (Kd.R_lower ho12 (below_size (bp HB.out))); have n1_ := an0 HB hb; clear HB; have HO189 := n0_; have HB := n1_; clear n0_ n1_; clear hb ho12; have hcv13 := own_string (P := Try.prog) Try.underlying22 Try.underlying5 Try.underlying9 (Kd.own_of_R HO189.out)) | ((with_reducible refine gate_callee (f := 158) rfl ?_); refine gsl (some 24) rfl Try.func158 #[.int .i64 x4_1] rfl ?_; (with_reducible refine (spec_l1Weight.calls x4_1 t190 _ A8.out).mono ?_); rintro e w' ⟨rfl, ⟨nd, rfl⟩⟩; refine ⟨_, rfl, ?_⟩))
                  go_ret
                  exact ⟨fe, bp HB.out⟩
                · rw [if_neg c10] at H
                  have c10b0 : ((Int.tmod x0_1 t190) == 0) = false := beq_eq_false_iff_ne.mpr c10
                  have c10b1 : ((Int.tmod x0_1 t190) != 0) = true := bne_iff_ne.mpr c10
                  have H' := Aside0.mk H
                  clear H
                  go_wp2_with (first | ((with_reducible refine gate_callee (f := 158) rfl ?_); refine gsl (some 15) rfl Try.func158 #[.int .i64 x4_1] rfl ?_; (with_reducible refine (spec_l1Weight.calls x4_1 t186 _ A5.out).mono ?_); rintro e w' ⟨rfl, ⟨nd, rfl⟩⟩; refine ⟨_, rfl, ?_⟩) | ((with_reducible refine gate_dst (N := 19) rfl ?_); refine Kd.R_lit (Kd.int .u8) _ 5 ?hg (N := 19) ?hd (xs := ([(wrap64 (97 + (wrap64 (Int.tdiv x0_1 t186)))) % 256] : List Int)) (inner := [.int .u8 ((wrap64 (97 + (wrap64 (Int.tdiv x0_1 t186)))) % 256)]) (ok := fun _ => True) (okp := fun _ => True) ?hr ?hp (fun _ hk => hk) trivial (Below.refl _ _) (Nat.le_refl _) (by simp) ?_; (case hd => rfl); (case hg => rfl); (case hr => first | (go_simp; done) | (go_simp; rfl)); (case hp => exact (Reps.one (show Kd.M (Kd.int .u8) _ _ _ ((wrap64 (97 + (wrap64 (Int.tdiv x0_1 t186)))) % 256) [.int .u8 ((wrap64 (97 + (wrap64 (Int.tdiv x0_1 t186)))) % 256)] from rfl) (Reps.none _ _))); intro v188 w14 ho15 hb hg_ hnew_; clear hg_ hnew_; (first | rw [← Ny187.out] at ho15 | (simp only [Int.reduceToNat] at ho15; rw [← Ny187.out] at ho15)); have n0_ := Aside0.mk (Kd.R_lower ho15 (below_size (bp HB.out))); have n1_ := an0 HB hb; clear HB; have HO189 := n0_; have HB := n1_; clear n0_ n1_; clear hb ho15; have hcv16 := own_string (P := Try.prog) Try.underlying22 Try.underlying5 Try.underlying9 (Kd.own_of_R HO189.out)) | ((with_reducible refine gate_callee (f := 158) rfl ?_); refine gsl (some 24) rfl Try.func158 #[.int .i64 x4_1] rfl ?_; (with_reducible refine (spec_l1Weight.calls x4_1 t190 _ A8.out).mono ?_); rintro e w' ⟨rfl, ⟨nd, rfl⟩⟩; refine ⟨_, rfl, ?_⟩))
                  go_roundg k1
                  case measure => have := HK1.out; omega
                  case rel => exact ⟨(wrap64 ((Int.tmod x0_1 t190) - 1)), (x3_1 ++ (strOfNums y187)), (wrap64 (x4_1 + 1)), (by first | rfl | (simp; done) | (simp [*]; done) | (simp [bne_nil_, beq_nil_]; done)), (by first | rfl | (simp; done) | (simp [*]; done) | (simp [bne_nil_, beq_nil_]; done)), (by first | rfl | (simp; done) | (simp [*]; done) | (simp [bne_nil_, beq_nil_]; done)), H', ⟨by have := HK1.out; omega⟩, ⟨bp HB.out⟩⟩
            · rw [if_neg c7] at H
              exact absurd H (by simp)
        · rw [if_neg c4] at H
          have c4b0 : decide (x4_1 < 4) = false := decide_eq_false c4
          clear c4
          obtain rfl := Option.some.inj H
          go_wp2
          go_ret
          exact ⟨fe, bp HB.out⟩
  · replace c3 := Bool.eq_false_iff.mpr c3
    subst c3
    have H1 : (some (⟨#[]⟩ : ByteArray)) = some r := by rw [if_neg (show ¬ (false = true) by decide)] at H; exact H
    clear H
    have H := H1
    clear H1
    obtain rfl := Option.some.inj H
    go_enter Try.func124, Try.ntmps124
    go_wp2_with (first | ((with_reducible refine gate_callee (f := 112) rfl ?_); refine gsl (some 6) rfl Try.func112 #[.int .i64 a0, .int .i64 0, .int .i64 475253] rfl ?_; (with_reducible refine (spec_l1In.calls a0 0 475253 false _ A2.out).mono ?_); rintro e w' ⟨rfl, ⟨nd, rfl⟩⟩; refine ⟨_, rfl, ?_⟩))
    go_ret
    exact ⟨fe, bp HB.out⟩

/-! ### spec_l20Pairs: function 70 -/
mutual
def spec_l20Pairs.l0 : Nat → Int → List (S29) → Int → List Int → Int → Option ((List (S29)) × Int)
  | 0, _, _, _, _, _ => none
  | k + 1, x1, x5, x6, x1000, x1001 => if x6 > 0 then ((spec_l20Key.f k x1000 x1001 0).bind fun bt196 => ((spec_l20Value.f k x1000 bt196.2 0).bind fun bt198 => ((spec_PairPut.f k x5 bt196.1 bt198.1).bind fun bt200 => (spec_l20Pairs.l0 k x1 bt200.1 (wrap64 (x6 - 1)) x1000 bt198.2)))) else ((spec_l20Rd_pick.f k x1000 x1001 16).bind fun bt204 => (if bt204.1 = 15 then (spec_l20Pairs.l1 k x1 x5 0 x1000 bt204.2) else (spec_l20Pairs.j3 k x1 x5 x1000 bt204.2)))
def spec_l20Pairs.j3 : Nat → Int → List (S29) → List Int → Int → Option ((List (S29)) × Int)
  | 0, _, _, _, _ => none
  | k + 1, x1, x5, x1000, x1001 => (spec_l20Rd_odd.f k x1000 x1001 x1).bind fun bt211 => (if bt211.1 = true then ((some (([(⟨(⟨#[]⟩ : ByteArray), 0⟩ : S29), (⟨(⟨#[122, 122, 122, 122]⟩ : ByteArray), (-1)⟩ : S29), (⟨(⟨#[122, 122, 122, 122]⟩ : ByteArray), 1000⟩ : S29), (⟨(⟨#[97]⟩ : ByteArray), 1⟩ : S29), (⟨(⟨#[65]⟩ : ByteArray), 0⟩ : S29)] : List (S29)) : List (S29))).bind fun y213 => ((spec_l20Rd_pick.f k x1000 bt211.2 5).bind fun bt216 => (if 0 ≤ bt216.1 then (if bt216.1 < (y213.length : Int) then (if x5.length < 5864062014805 then (some ((x5 ++ [(⟨(rd_T29 y213 bt216.1).f0, (rd_T29 y213 bt216.1).f1⟩ : S29)]), bt216.2)) else (none)) else (none)) else (none)))) else (some (x5, bt211.2)))
def spec_l20Pairs.l1 : Nat → Int → List (S29) → Int → List Int → Int → Option ((List (S29)) × Int)
  | 0, _, _, _, _, _ => none
  | k + 1, x1, x5, x9, x1000, x1001 => if (x5.length : Int) < 48 then (spec_l20Pairs.j2 k x1 x5 x9 (decide (x9 < 200)) x1000 x1001) else (spec_l20Pairs.j2 k x1 x5 x9 false x1000 x1001)
def spec_l20Pairs.j2 : Nat → Int → List (S29) → Int → Bool → List Int → Int → Option ((List (S29)) × Int)
  | 0, _, _, _, _, _, _ => none
  | k + 1, x1, x5, x9, x38, x1000, x1001 => if x38 = true then ((spec_KeyAt.f k (wrap64 (x9 * 9))).bind fun t206 => ((spec_PairPut.f k x5 t206 x9).bind fun bt207 => (spec_l20Pairs.l1 k x1 bt207.1 (wrap64 (x9 + 1)) x1000 x1001))) else (spec_l20Pairs.j3 k x1 x5 x1000 x1001)
end
def spec_l20Pairs.f (k : Nat) (s0_0 : List Int) (s0_1 : Int) (a1 : Int) : Option ((List (S29)) × Int) := (spec_l20Rd_pick.f k s0_0 s0_1 9).bind fun bt194 => (spec_l20Pairs.l0 k a1 (([] : List (S29))) bt194.1 s0_0 bt194.2)
theorem spec_l20Pairs.mono_l : ∀ k, (∀ y0 y1 y2 y3 y4, LeO (spec_l20Pairs.l0 k y0 y1 y2 y3 y4) (spec_l20Pairs.l0 (k + 1) y0 y1 y2 y3 y4)) ∧ (∀ y0 y1 y2 y3, LeO (spec_l20Pairs.j3 k y0 y1 y2 y3) (spec_l20Pairs.j3 (k + 1) y0 y1 y2 y3)) ∧ (∀ y0 y1 y2 y3 y4, LeO (spec_l20Pairs.l1 k y0 y1 y2 y3 y4) (spec_l20Pairs.l1 (k + 1) y0 y1 y2 y3 y4)) ∧ (∀ y0 y1 y2 y3 y4 y5, LeO (spec_l20Pairs.j2 k y0 y1 y2 y3 y4 y5) (spec_l20Pairs.j2 (k + 1) y0 y1 y2 y3 y4 y5))
  | 0 => ⟨fun _ _ _ _ _ r h => by simp [spec_l20Pairs.l0] at h, fun _ _ _ _ r h => by simp [spec_l20Pairs.j3] at h, fun _ _ _ _ _ r h => by simp [spec_l20Pairs.l1] at h, fun _ _ _ _ _ _ r h => by simp [spec_l20Pairs.j2] at h⟩
  | k + 1 => by
    obtain ⟨ih0, ih1, ih2, ih3⟩ := spec_l20Pairs.mono_l k
    refine ⟨?_, ?_, ?_, ?_⟩
    · intro y0 y1 y2 y3 y4
      unfold spec_l20Pairs.l0
      repeat' first
      | (with_reducible exact ih0 _ _ _ _ _)
      | (with_reducible exact ih1 _ _ _ _)
      | (with_reducible exact ih2 _ _ _ _ _)
      | (with_reducible exact ih3 _ _ _ _ _ _)
      | (with_reducible exact spec_KeyAt.mono _ _)
      | (with_reducible exact spec_PairPut.mono _ _ _ _)
      | (with_reducible exact spec_l20Key.mono _ _ _ _)
      | (with_reducible exact spec_l20Rd_odd.mono _ _ _ _)
      | (with_reducible exact spec_l20Rd_pick.mono _ _ _ _)
      | (with_reducible exact spec_l20Value.mono _ _ _ _)
      | (with_reducible exact LeO.refl _)
      | (with_reducible exact LeO.none _)
      | (with_reducible refine LeO.ite ?_ ?_)
      | (with_reducible refine LeO.bind ?_ (fun _ => ?_))
      | exact ih0 _ _ _ _ _
      | exact ih1 _ _ _ _
      | exact ih2 _ _ _ _ _
      | exact ih3 _ _ _ _ _ _
      | exact spec_KeyAt.mono _ _
      | exact spec_PairPut.mono _ _ _ _
      | exact spec_l20Key.mono _ _ _ _
      | exact spec_l20Rd_odd.mono _ _ _ _
      | exact spec_l20Rd_pick.mono _ _ _ _
      | exact spec_l20Value.mono _ _ _ _
      | exact LeO.none _
      | refine LeO.ite ?_ ?_
      | refine LeO.bind ?_ (fun _ => ?_)
    · intro y0 y1 y2 y3
      unfold spec_l20Pairs.j3
      repeat' first
      | (with_reducible exact ih0 _ _ _ _ _)
      | (with_reducible exact ih1 _ _ _ _)
      | (with_reducible exact ih2 _ _ _ _ _)
      | (with_reducible exact ih3 _ _ _ _ _ _)
      | (with_reducible exact spec_KeyAt.mono _ _)
      | (with_reducible exact spec_PairPut.mono _ _ _ _)
      | (with_reducible exact spec_l20Key.mono _ _ _ _)
      | (with_reducible exact spec_l20Rd_odd.mono _ _ _ _)
      | (with_reducible exact spec_l20Rd_pick.mono _ _ _ _)
      | (with_reducible exact spec_l20Value.mono _ _ _ _)
      | (with_reducible exact LeO.refl _)
      | (with_reducible exact LeO.none _)
      | (with_reducible refine LeO.ite ?_ ?_)
      | (with_reducible refine LeO.bind ?_ (fun _ => ?_))
      | exact ih0 _ _ _ _ _
      | exact ih1 _ _ _ _
      | exact ih2 _ _ _ _ _
      | exact ih3 _ _ _ _ _ _
      | exact spec_KeyAt.mono _ _
      | exact spec_PairPut.mono _ _ _ _
      | exact spec_l20Key.mono _ _ _ _
      | exact spec_l20Rd_odd.mono _ _ _ _
      | exact spec_l20Rd_pick.mono _ _ _ _
      | exact spec_l20Value.mono _ _ _ _
      | exact LeO.none _
      | refine LeO.ite ?_ ?_
      | refine LeO.bind ?_ (fun _ => ?_)
    · intro y0 y1 y2 y3 y4
      unfold spec_l20Pairs.l1
      repeat' first
      | (with_reducible exact ih0 _ _ _ _ _)
      | (with_reducible exact ih1 _ _ _ _)
      | (with_reducible exact ih2 _ _ _ _ _)
      | (with_reducible exact ih3 _ _ _ _ _ _)
      | (with_reducible exact spec_KeyAt.mono _ _)
      | (with_reducible exact spec_PairPut.mono _ _ _ _)
      | (with_reducible exact spec_l20Key.mono _ _ _ _)
      | (with_reducible exact spec_l20Rd_odd.mono _ _ _ _)
      | (with_reducible exact spec_l20Rd_pick.mono _ _ _ _)
      | (with_reducible exact spec_l20Value.mono _ _ _ _)
      | (with_reducible exact LeO.refl _)
      | (with_reducible exact LeO.none _)
      | (with_reducible refine LeO.ite ?_ ?_)
      | (with_reducible refine LeO.bind ?_ (fun _ => ?_))
      | exact ih0 _ _ _ _ _
      | exact ih1 _ _ _ _
      | exact ih2 _ _ _ _ _
      | exact ih3 _ _ _ _ _ _
      | exact spec_KeyAt.mono _ _
      | exact spec_PairPut.mono _ _ _ _
      | exact spec_l20Key.mono _ _ _ _
      | exact spec_l20Rd_odd.mono _ _ _ _
      | exact spec_l20Rd_pick.mono _ _ _ _
      | exact spec_l20Value.mono _ _ _ _
      | exact LeO.none _
      | refine LeO.ite ?_ ?_
      | refine LeO.bind ?_ (fun _ => ?_)
    · intro y0 y1 y2 y3 y4 y5
      unfold spec_l20Pairs.j2
      repeat' first
      | (with_reducible exact ih0 _ _ _ _ _)
      | (with_reducible exact ih1 _ _ _ _)
      | (with_reducible exact ih2 _ _ _ _ _)
      | (with_reducible exact ih3 _ _ _ _ _ _)
      | (with_reducible exact spec_KeyAt.mono _ _)
      | (with_reducible exact spec_PairPut.mono _ _ _ _)
      | (with_reducible exact spec_l20Key.mono _ _ _ _)
      | (with_reducible exact spec_l20Rd_odd.mono _ _ _ _)
      | (with_reducible exact spec_l20Rd_pick.mono _ _ _ _)
      | (with_reducible exact spec_l20Value.mono _ _ _ _)
      | (with_reducible exact LeO.refl _)
      | (with_reducible exact LeO.none _)
      | (with_reducible refine LeO.ite ?_ ?_)
      | (with_reducible refine LeO.bind ?_ (fun _ => ?_))
      | exact ih0 _ _ _ _ _
      | exact ih1 _ _ _ _
      | exact ih2 _ _ _ _ _
      | exact ih3 _ _ _ _ _ _
      | exact spec_KeyAt.mono _ _
      | exact spec_PairPut.mono _ _ _ _
      | exact spec_l20Key.mono _ _ _ _
      | exact spec_l20Rd_odd.mono _ _ _ _
      | exact spec_l20Rd_pick.mono _ _ _ _
      | exact spec_l20Value.mono _ _ _ _
      | exact LeO.none _
      | refine LeO.ite ?_ ?_
      | refine LeO.bind ?_ (fun _ => ?_)
theorem spec_l20Pairs.mono : ∀ a0 a1 a2 k, LeO (spec_l20Pairs.f k a0 a1 a2) (spec_l20Pairs.f (k + 1) a0 a1 a2) := by
  intro a0 a1 a2 k
  obtain ⟨ih0, ih1, ih2, ih3⟩ := spec_l20Pairs.mono_l k
  unfold spec_l20Pairs.f
  repeat' first
      | (with_reducible exact ih0 _ _ _ _ _)
      | (with_reducible exact ih1 _ _ _ _)
      | (with_reducible exact ih2 _ _ _ _ _)
      | (with_reducible exact ih3 _ _ _ _ _ _)
      | (with_reducible exact spec_KeyAt.mono _ _)
      | (with_reducible exact spec_PairPut.mono _ _ _ _)
      | (with_reducible exact spec_l20Key.mono _ _ _ _)
      | (with_reducible exact spec_l20Rd_odd.mono _ _ _ _)
      | (with_reducible exact spec_l20Rd_pick.mono _ _ _ _)
      | (with_reducible exact spec_l20Value.mono _ _ _ _)
      | (with_reducible exact LeO.refl _)
      | (with_reducible exact LeO.none _)
      | (with_reducible refine LeO.ite ?_ ?_)
      | (with_reducible refine LeO.bind ?_ (fun _ => ?_))
      | exact ih0 _ _ _ _ _
      | exact ih1 _ _ _ _
      | exact ih2 _ _ _ _ _
      | exact ih3 _ _ _ _ _ _
      | exact spec_KeyAt.mono _ _
      | exact spec_PairPut.mono _ _ _ _
      | exact spec_l20Key.mono _ _ _ _
      | exact spec_l20Rd_odd.mono _ _ _ _
      | exact spec_l20Rd_pick.mono _ _ _ _
      | exact spec_l20Value.mono _ _ _ _
      | exact LeO.none _
      | refine LeO.ite ?_ ?_
      | refine LeO.bind ?_ (fun _ => ?_)
theorem spec_l20Pairs.s0 {P0 Q : Prop} (B0 : P0) (h : P0 → Q := by (intro b0_; repeat (first | (with_reducible first | exact b0_ | apply KeepBut.set_ | apply keep_drewN | apply keep_drew | apply keep_alloc) | exact b0_))) : Q := h B0
theorem spec_l20Pairs.s1 {P0 Q : Prop} (B0 : P0) (h : P0 → Q := by (intro b0_; repeat (first | (with_reducible first | exact b0_ | apply IsS147.alloc | apply IsS147.drewN | apply IsS147.drew | apply IsS147.set_1) | exact b0_))) : Q := h B0
theorem spec_l20Pairs.s2 {P0 P1 Q : Prop} (B0 : P0) (B1 : P1) (h : P0 → P1 → Q := by (intro b0_ b1_; repeat (first | (with_reducible first | exact b0_ | apply below_alloc | apply pw_below_drewN | apply below_drew1 | refine below_set ?_ (IsS147.ge b1_)) | exact b0_))) : Q := h B0 B1
set_option maxHeartbeats 8000000 in
set_option maxRecDepth 100000 in
theorem spec_l20Pairs.calls (k : Nat) (g : Nat) (s0_0 : List Int) (s0_1 : Int) (a1 : Int) (r1 : List (S29)) (r2 : Int) (w0 w : World) (hI : IsS147 w0 w g s0_0 s0_1) (hB : Below w0.heap.size w0 w) (h : spec_l20Pairs.f k s0_0 s0_1 a1 = some (r1, r2)) :
    Calls Try.prog 70 #[.pointer (some ⟨g, 0, none⟩), .int .i64 a1] w fun e w' => ∃ v0_ : Value, e = .returned (v0_) ∧ Kd.R k29 29 w' w.heap.size (fun _ => True) v0_ r1 ∧ IsS147 w0 w' g s0_0 r2 ∧ Below w0.heap.size w0 w' ∧ KeepBut w w' g none := by
  have hu29 := Try.underlying29
  have HI0 := Aside0.mk hI
  have HK := Aside0.mk (KeepBut.refl w g none)
  have HL := Aside0.mk hB.size
  clear hI
  have HW0 := Aside0.mk hB.size
  have HB := Aside0.mk hB
  clear hB
  have H : ((spec_l20Rd_pick.f k s0_0 s0_1 9).bind fun bt194 => (spec_l20Pairs.l0 k a1 (([] : List (S29))) bt194.1 s0_0 bt194.2)) = some (r1, r2) := h
  clear h
  obtain ⟨y191, hy191⟩ : ∃ y_ : List (S29), y_ = (([] : List (S29))) := ⟨_, rfl⟩
  replace H : ((spec_l20Rd_pick.f k s0_0 s0_1 9).bind fun bt194 => (spec_l20Pairs.l0 k a1 y191 bt194.1 s0_0 bt194.2)) = some (r1, r2) := by first | (rw [hy191]; with_reducible exact H) | (have H2_ := (Option.bind_some _ _).symm.trans H; rw [hy191]; with_reducible exact H2_) | (have H2_ := (Option.bind_some _ _).symm.trans H; with_reducible exact H2_) | with_reducible exact H | (rw [hy191]; exact H) | exact H
  have Ny191 := Aside0.mk hy191
  clear hy191
  replace H := Option.bind_eq_some_iff.mp H
  obtain ⟨⟨t194, t195⟩, A30, H⟩ := H
  replace H : (spec_l20Pairs.l0 k a1 y191 t194 s0_0 t195) = some (r1, r2) := H
  have A3 := Aside0.mk A30
  clear A30
  have H' := Aside0.mk H
  clear H
  go_enter Try.func70, Try.ntmps70
  go_wp2_with (first | ((with_reducible refine gate_dst (N := 12) rfl ?_); refine Kd.R_lit k29 _ 29 ?hg (N := 12) ?hd (xs := ([] : List (S29))) (inner := []) (ok := fun _ => True) (okp := fun _ => True) ?hr ?hp (fun _ hk => hk) trivial (Below.refl _ _) (Nat.le_refl _) (by simp) ?_; (case hd => rfl); (case hg => rfl); (case hr => first | (go_simp; done) | (go_simp; rfl)); (case hp => exact (Reps.none _ _)); intro v192 w4 ho5 hb hg_ hnew_; clear hg_ hnew_; (first | rw [← Ny191.out] at ho5 | (simp only [Int.reduceToNat] at ho5; rw [← Ny191.out] at ho5)); have n0_ := Aside0.mk (Kd.R_lower ho5 (keep_size (w := w) (g := g) (row := none) (spec_l20Pairs.s0 HK.out))); have n1_ := Aside0.mk (IsS147.below (spec_l20Pairs.s1 HI0.out) hb); have n2_ := Aside0.mk (KeepBut.trans (spec_l20Pairs.s0 HK.out) (KeepBut.of_below hb g none) (.inl rfl)); have n3_ := Aside0.mk (below_step (spec_l20Pairs.s2 HB.out HI0.out) hb); clear HI0; clear HK; clear HB; have HO193 := n0_; have HI0 := n1_; have HK := n2_; have HB := n3_; clear n0_ n1_ n2_ n3_; clear hb ho5) | ((with_reducible refine gate_callee (f := 78) rfl ?_); refine gsl (some 14) rfl Try.func78 #[.pointer (some ⟨g, 0, none⟩), .int .i64 9] rfl ?_; (with_reducible refine (spec_l20Rd_pick.calls k g s0_0 s0_1 9 t194 t195 w0 _ ?side1 ?side2 A3.out).mono ?_); (case side1 => exact spec_l20Pairs.s1 HI0.out); (case side2 => exact spec_l20Pairs.s2 HB.out HI0.out); rintro e w6 ⟨rfl, hi, hb, hk⟩; refine ⟨_, rfl, ?_⟩; have n0_ := Aside0.mk (Kd.R_mono (Kd.R_keep (IsS147.apart (show IsS147 w0 _ g s0_0 s0_1 from spec_l20Pairs.s1 HI0.out) (kr HO193.out) (by decide)) hk (fun _ h => h.2)) (fun _ h => h.1)); have n1_ := Aside0.mk (KeepBut.trans (spec_l20Pairs.s0 HK.out) hk (.inl rfl)); have n2_ := Aside0.mk (hb); have n3_ := Aside0.mk (hi); clear HO193; clear HK; clear HB; clear HI0; have HO193 := n0_; have HK := n1_; have HB := n2_; have HI0 := n3_; clear n0_ n1_ n2_ n3_; (try clear hb); (try clear hb2); (try clear hk); (try clear hi)))
  go_loopg [5, 6] k (fun kq v5 v6 w' => ∃ (x5_1 : List (S29)) (x6_1 : Int) (x1001_1 : Int), v6 = .int .i64 x6_1 ∧ Aside0 (spec_l20Pairs.l0 kq a1 x5_1 x6_1 s0_0 x1001_1 = some (r1, r2)) ∧ Aside0 (kq ≤ k) ∧ Aside0 (Kd.R k29 29 w' w.heap.size (fun _ => True) v5 x5_1) ∧ Aside0 (IsS147 w0 w' g s0_0 x1001_1) ∧ Aside0 (KeepBut w w' g none) ∧ Aside0 (Below w0.heap.size w0 w'))
  case atStart => exact ⟨(y191), (t194), (t195), (by first | rfl | (simp; done) | (simp [*]; done) | (simp [bne_nil_, beq_nil_]; done)), H', ⟨Nat.le_refl _⟩, ⟨by (with_reducible repeat (first | apply Kd.R_alloc | apply Kd.R_drewN | apply Kd.R_drew)); exact HO193.out⟩, ⟨spec_l20Pairs.s1 HI0.out⟩, ⟨spec_l20Pairs.s0 HK.out⟩, ⟨spec_l20Pairs.s2 HB.out HI0.out⟩⟩
  case round =>
    clear H'
    try clear p2
    obtain ⟨x5_1, x6_1, x1001_1, rfl, HA, HK1, HO_5, HI0, HK, HB⟩ := hrel
    cases gk with
    | zero => exact absurd HA.out (by simp [spec_l20Pairs.l0])
    | succ k1 =>
      have H := HA.out
      clear HA
      simp only [spec_l20Pairs.l0] at H
      by_cases c7 : x6_1 > 0
      · rw [if_pos c7] at H
        have c7b0 : decide (0 < x6_1) = true := decide_eq_true c7
        clear c7
        replace H := Option.bind_eq_some_iff.mp H
        obtain ⟨⟨t196, t197⟩, A80, H⟩ := H
        replace H : ((spec_l20Value.f k1 s0_0 t197 0).bind fun bt198 => ((spec_PairPut.f k1 x5_1 t196 bt198.1).bind fun bt200 => (spec_l20Pairs.l0 k1 a1 bt200.1 (wrap64 (x6_1 - 1)) s0_0 bt198.2))) = some (r1, r2) := H
        have A8 := Aside0.mk A80
        clear A80
        replace H := Option.bind_eq_some_iff.mp H
        obtain ⟨⟨t198, t199⟩, A90, H⟩ := H
        replace H : ((spec_PairPut.f k1 x5_1 t196 t198).bind fun bt200 => (spec_l20Pairs.l0 k1 a1 bt200.1 (wrap64 (x6_1 - 1)) s0_0 t199)) = some (r1, r2) := H
        have A9 := Aside0.mk A90
        clear A90
        replace H := Option.bind_eq_some_iff.mp H
        obtain ⟨⟨t200, t201⟩, A100, H⟩ := H
        replace H : (spec_l20Pairs.l0 k1 a1 t200 (wrap64 (x6_1 - 1)) s0_0 t199) = some (r1, r2) := H
        have A10 := Aside0.mk A100
        clear A100
        have H' := Aside0.mk H
        clear H
        go_wp2_with (first | ((with_reducible refine gate_callee (f := 122) rfl ?_); refine gsl (some 22) rfl Try.func122 #[.pointer (some ⟨g, 0, none⟩), .int .i64 0] rfl ?_; (with_reducible refine (spec_l20Key.calls k1 g s0_0 x1001_1 0 t196 t197 w0 _ ?side1 ?side2 A8.out).mono ?_); (case side1 => exact spec_l20Pairs.s1 HI0.out); (case side2 => exact spec_l20Pairs.s2 HB.out HI0.out); rintro e w11 ⟨rfl, hi, hb, hk⟩; refine ⟨_, rfl, ?_⟩; have n0_ := Aside0.mk (Kd.R_mono (Kd.R_keep (IsS147.apart (show IsS147 w0 _ g s0_0 x1001_1 from spec_l20Pairs.s1 HI0.out) (kr HO_5.out) (by decide)) hk (fun _ h => h.2)) (fun _ h => h.1)); have n1_ := Aside0.mk (KeepBut.trans (spec_l20Pairs.s0 HK.out) hk (.inl rfl)); have n2_ := Aside0.mk (hb); have n3_ := Aside0.mk (hi); clear HO_5; clear HK; clear HB; clear HI0; have HO_5 := n0_; have HK := n1_; have HB := n2_; have HI0 := n3_; clear n0_ n1_ n2_ n3_; (try clear hb); (try clear hb2); (try clear hk); (try clear hi)) | ((with_reducible refine gate_callee (f := 123) rfl ?_); refine gsl (some 24) rfl Try.func123 #[.pointer (some ⟨g, 0, none⟩), .int .i64 0] rfl ?_; (with_reducible refine (spec_l20Value.calls k1 g s0_0 t197 0 t198 t199 w0 _ ?side1 ?side2 A9.out).mono ?_); (case side1 => exact spec_l20Pairs.s1 HI0.out); (case side2 => exact spec_l20Pairs.s2 HB.out HI0.out); rintro e w12 ⟨rfl, hi, hb, hk⟩; refine ⟨_, rfl, ?_⟩; have n0_ := Aside0.mk (Kd.R_mono (Kd.R_keep (IsS147.apart (show IsS147 w0 _ g s0_0 t197 from spec_l20Pairs.s1 HI0.out) (kr HO_5.out) (by decide)) hk (fun _ h => h.2)) (fun _ h => h.1)); have n1_ := Aside0.mk (KeepBut.trans (spec_l20Pairs.s0 HK.out) hk (.inl rfl)); have n2_ := Aside0.mk (hb); have n3_ := Aside0.mk (hi); clear HO_5; clear HK; clear HB; clear HI0; have HO_5 := n0_; have HK := n1_; have HB := n2_; have HI0 := n3_; clear n0_ n1_ n2_ n3_; (try clear hb); (try clear hb2); (try clear hk); (try clear hi); obtain ⟨Ao13, co13, eo13⟩ := Kd.R_slice HO_5.out; subst eo13) | ((with_reducible refine gate_callee (f := 93) rfl ?_); refine gsl (some 25) rfl Try.func93 #[.slice Ao13 x5_1.length co13, .string t196, .int .i64 t198] rfl ?_; (with_reducible refine (spec_PairPut.calls k1 _ _ x5_1 t196 t198 t200 t201 _ ?side1 ?side2 A10.out).mono ?_); (case side1 => repeat (first | exact (Kd.R_reads' HO_5.out).2.2 | (with_reducible refine Kd.C_alloc ?_ _) | (with_reducible refine Kd.C_drewN ?_ _) | (with_reducible refine Kd.C_drew ?_))); (case side2 => exact (Kd.R_reads' HO_5.out).2.1); rintro e w14 ⟨v202, rfl, ho0, hb⟩; refine ⟨_, rfl, ?_⟩; have n0_ := Aside0.mk (Kd.R_elder' (kr HO_5.out) (Kd.R_base ho0) hb); have n1_ := Aside0.mk (Kd.R_lower (Kd.R_new' ho0 (Kd.R_lt (kr HO_5.out))) (keep_size (w := w) (g := g) (row := none) (spec_l20Pairs.s0 HK.out))); have n2_ := Aside0.mk (IsS147.below (spec_l20Pairs.s1 HI0.out) hb); have n3_ := Aside0.mk (KeepBut.trans (spec_l20Pairs.s0 HK.out) (KeepBut.of_below hb g none) (.inl rfl)); have n4_ := Aside0.mk (below_step (spec_l20Pairs.s2 HB.out HI0.out) hb); clear HO_5; clear HI0; clear HK; clear HB; have HO_5 := n0_; have HO203 := n1_; have HI0 := n2_; have HK := n3_; have HB := n4_; clear n0_ n1_ n2_ n3_ n4_; (try clear hb); (try clear hb2); (try clear hk); (try clear hi); (try clear ho0)))
        go_roundg k1
        case measure => have := HK1.out; omega
        case rel => exact ⟨(t200), (wrap64 (x6_1 - 1)), (t199), (by first | rfl | (simp; done) | (simp [*]; done) | (simp [bne_nil_, beq_nil_]; done)), H', ⟨by have := HK1.out; omega⟩, ⟨by (with_reducible repeat (first | apply Kd.R_alloc | apply Kd.R_drewN | apply Kd.R_drew)); exact Kd.R_mono HO203.out (fun _ hk => trivial)⟩, ⟨spec_l20Pairs.s1 HI0.out⟩, ⟨spec_l20Pairs.s0 HK.out⟩, ⟨spec_l20Pairs.s2 HB.out HI0.out⟩⟩
      · rw [if_neg c7] at H
        have c7b0 : decide (0 < x6_1) = false := decide_eq_false c7
        clear c7
        replace H := Option.bind_eq_some_iff.mp H
        obtain ⟨⟨t204, t205⟩, A150, H⟩ := H
        replace H : (if t204 = 15 then (spec_l20Pairs.l1 k1 a1 x5_1 0 s0_0 t205) else (spec_l20Pairs.j3 k1 a1 x5_1 s0_0 t205)) = some (r1, r2) := H
        have A15 := Aside0.mk A150
        clear A150
        have HC16 := Aside0.mk H
        clear H
        go_upto_if 31 with (first | ((with_reducible refine gate_callee (f := 78) rfl ?_); refine gsl (some 30) rfl Try.func78 #[.pointer (some ⟨g, 0, none⟩), .int .i64 16] rfl ?_; (with_reducible refine (spec_l20Rd_pick.calls k1 g s0_0 x1001_1 16 t204 t205 w0 _ ?side1 ?side2 A15.out).mono ?_); (case side1 => exact spec_l20Pairs.s1 HI0.out); (case side2 => exact spec_l20Pairs.s2 HB.out HI0.out); rintro e w17 ⟨rfl, hi, hb, hk⟩; refine ⟨_, rfl, ?_⟩; have n0_ := Aside0.mk (Kd.R_mono (Kd.R_keep (IsS147.apart (show IsS147 w0 _ g s0_0 x1001_1 from spec_l20Pairs.s1 HI0.out) (kr HO_5.out) (by decide)) hk (fun _ h => h.2)) (fun _ h => h.1)); have n1_ := Aside0.mk (KeepBut.trans (spec_l20Pairs.s0 HK.out) hk (.inl rfl)); have n2_ := Aside0.mk (hb); have n3_ := Aside0.mk (hi); clear HO_5; clear HK; clear HB; clear HI0; have HO_5 := n0_; have HK := n1_; have HB := n2_; have HI0 := n3_; clear n0_ n1_ n2_ n3_; (try clear hb); (try clear hb2); (try clear hk); (try clear hi)))
        (try simp only [Act.put, List.setIfInBounds_toArray, List.set_cons_zero, List.set_cons_succ])
        go_cut [5] (fun v5 wc => ∃ (kq : Nat) (x5_15 : List (S29)), Aside0 (spec_l20Pairs.j3 kq a1 x5_15 s0_0 t205 = some (r1, r2)) ∧ Aside0 (kq ≤ k1) ∧ Aside0 (Kd.R k29 29 wc w.heap.size (fun _ => True) v5 x5_15) ∧ Aside0 (IsS147 w0 wc g s0_0 t205) ∧ Aside0 (KeepBut w wc g none) ∧ Aside0 (Below w0.heap.size w0 wc))
        case first =>
          have H := HC16.out
          clear HC16
          by_cases c18 : t204 = 15
          · rw [if_pos c18] at H
            have c18b0 : (t204 == 15) = true := beq_iff_eq.mpr c18
            have c18b1 : (t204 != 15) = false := bne_eq_false_iff_eq.mpr c18
            clear c18
            (first | rw [c18b0] | (simp only [i64_w, i32_w]; rw [c18b0]) | skip)
            have H' := Aside0.mk H
            clear H
            go_wp2
            go_loopg [5, 9] k1 (fun kq v5 v9 w' => ∃ (x5_2 : List (S29)) (x9_2 : Int), v9 = .int .i64 x9_2 ∧ Aside0 (spec_l20Pairs.l1 kq a1 x5_2 x9_2 s0_0 t205 = some (r1, r2)) ∧ Aside0 (kq ≤ k1) ∧ Aside0 (Kd.R k29 29 w' w.heap.size (fun _ => True) v5 x5_2) ∧ Aside0 (IsS147 w0 w' g s0_0 t205) ∧ Aside0 (KeepBut w w' g none) ∧ Aside0 (Below w0.heap.size w0 w'))
            case atStart => exact ⟨(x5_1), (0), (by first | rfl | (simp; done) | (simp [*]; done) | (simp [bne_nil_, beq_nil_]; done)), H', ⟨Nat.le_refl _⟩, ⟨by (with_reducible repeat (first | apply Kd.R_alloc | apply Kd.R_drewN | apply Kd.R_drew)); exact HO_5.out⟩, ⟨spec_l20Pairs.s1 HI0.out⟩, ⟨spec_l20Pairs.s0 HK.out⟩, ⟨spec_l20Pairs.s2 HB.out HI0.out⟩⟩
            case round =>
              clear H'
              try clear c1
              try clear p2
              try clear p6
              try clear c7
              try clear c7b0
              try clear c9
              try clear c12
              try clear c18
              try clear c18b0
              try clear c18b1
              try clear p2
              obtain ⟨x5_2, x9_2, rfl, HA, HK2, HO_5, HI0, HK, HB⟩ := hrel
              cases gk with
              | zero => exact absurd HA.out (by simp [spec_l20Pairs.l1])
              | succ k2 =>
                have H := HA.out
                clear HA
                simp only [spec_l20Pairs.l1] at H
                have HC19 := Aside0.mk H
                clear H
                go_upto_region 9 with (fail)
                go_cut [38] (fun v38 wc => ∃ (kq : Nat) (x38_18 : Bool), v38 = .bool x38_18 ∧ Aside0 (spec_l20Pairs.j2 kq a1 x5_2 x9_2 x38_18 s0_0 t205 = some (r1, r2)) ∧ Aside0 (kq ≤ k2) ∧ Aside0 (Kd.R k29 29 wc w.heap.size (fun _ => True) u5 x5_2) ∧ Aside0 (IsS147 w0 wc g s0_0 t205) ∧ Aside0 (KeepBut w wc g none) ∧ Aside0 (Below w0.heap.size w0 wc))
                case first =>
                  have H := HC19.out
                  clear HC19
                  by_cases c20 : (x5_2.length : Int) < 48
                  · rw [if_pos c20] at H
                    have c20b0 : decide ((x5_2.length : Int) < 48) = true := decide_eq_true c20
                    have c20b1 : decide (x5_2.length < 48) = true := decide_eq_true (by omega)
                    clear c20
                    (first | rw [c20b0] | (simp only [i64_w, i32_w]; rw [c20b0]) | skip)
                    have H' := Aside0.mk H
                    clear H
                    obtain ⟨Ao21, co21, eo21⟩ := Kd.R_slice HO_5.out
                    subst eo21
                    go_wp2
                    go_meet
                    case rel => exact ⟨_, (decide (x9_2 < 200)), (by first | rfl | (simp; done) | (simp [*]; done) | (simp [bne_nil_, beq_nil_]; done)), H', ⟨by have := HK1.out; have := HK2.out; first | omega | exact Nat.le_refl _⟩, ⟨by (with_reducible repeat (first | apply Kd.R_alloc | apply Kd.R_drewN | apply Kd.R_drew)); exact HO_5.out⟩, ⟨spec_l20Pairs.s1 HI0.out⟩, ⟨spec_l20Pairs.s0 HK.out⟩, ⟨spec_l20Pairs.s2 HB.out HI0.out⟩⟩
                  · rw [if_neg c20] at H
                    have c20b0 : decide ((x5_2.length : Int) < 48) = false := decide_eq_false c20
                    have c20b1 : decide (x5_2.length < 48) = false := decide_eq_false (by omega)
                    clear c20
                    (first | rw [c20b0] | (simp only [i64_w, i32_w]; rw [c20b0]) | skip)
                    have H' := Aside0.mk H
                    clear H
                    obtain ⟨Ao22, co22, eo22⟩ := Kd.R_slice HO_5.out
                    subst eo22
                    go_wp2
                    go_meet
                    case rel => exact ⟨_, (false), (by first | rfl | (simp; done) | (simp [*]; done) | (simp [bne_nil_, beq_nil_]; done)), H', ⟨by have := HK1.out; have := HK2.out; first | omega | exact Nat.le_refl _⟩, ⟨by (with_reducible repeat (first | apply Kd.R_alloc | apply Kd.R_drewN | apply Kd.R_drew)); exact HO_5.out⟩, ⟨spec_l20Pairs.s1 HI0.out⟩, ⟨spec_l20Pairs.s0 HK.out⟩, ⟨spec_l20Pairs.s2 HB.out HI0.out⟩⟩
                case rest =>
                  clear HC19
                  try clear c1
                  try clear c2
                  try clear p2
                  try clear p6
                  try clear c7
                  try clear c7b0
                  try clear c9
                  try clear c12
                  try clear c18
                  try clear c18b0
                  try clear c18b1
                  try clear c20
                  try clear c20b0
                  try clear c20b1
                  try clear p2
                  try clear p6
                  obtain ⟨kq, x38_18, rfl, HA, HJ18, HO_5, HI0, HK, HB⟩ := hcut
                  cases kq with
                  | zero => exact absurd HA.out (by simp [spec_l20Pairs.j2])
                  | succ kj18 =>
                    have H := HA.out
                    clear HA
                    simp only [spec_l20Pairs.j2] at H
                    by_cases c23 : x38_18 = true
                    · subst c23
                      have H1 : ((spec_KeyAt.f kj18 (wrap64 (x9_2 * 9))).bind fun t206 => ((spec_PairPut.f kj18 x5_2 t206 x9_2).bind fun bt207 => (spec_l20Pairs.l1 kj18 a1 bt207.1 (wrap64 (x9_2 + 1)) s0_0 t205))) = some (r1, r2) := by rw [if_pos rfl] at H; exact H
                      clear H
                      have H := H1
                      clear H1
                      replace H := Option.bind_eq_some_iff.mp H
                      obtain ⟨t206, A240, H⟩ := H
                      replace H : ((spec_PairPut.f kj18 x5_2 t206 x9_2).bind fun bt207 => (spec_l20Pairs.l1 kj18 a1 bt207.1 (wrap64 (x9_2 + 1)) s0_0 t205)) = some (r1, r2) := H
                      have A24 := Aside0.mk A240
                      clear A240
                      replace H := Option.bind_eq_some_iff.mp H
                      obtain ⟨⟨t207, t208⟩, A250, H⟩ := H
                      replace H : (spec_l20Pairs.l1 kj18 a1 t207 (wrap64 (x9_2 + 1)) s0_0 t205) = some (r1, r2) := H
                      have A25 := Aside0.mk A250
                      clear A250
                      have H' := Aside0.mk H
                      clear H
                      go_wp2_with (first | ((with_reducible refine gate_callee (f := 124) rfl ?_); refine gsl (some 45) rfl Try.func124 #[.int .i64 (wrap64 (x9_2 * 9))] rfl ?_; (with_reducible refine (spec_KeyAt.calls kj18 (wrap64 (x9_2 * 9)) t206 _ A24.out).mono ?_); rintro e w26 ⟨rfl, hb⟩; refine ⟨_, rfl, ?_⟩; have n0_ := Aside0.mk (Kd.R_below (kr HO_5.out) hb); have n1_ := Aside0.mk (IsS147.below (spec_l20Pairs.s1 HI0.out) hb); have n2_ := Aside0.mk (KeepBut.trans (spec_l20Pairs.s0 HK.out) (KeepBut.of_below hb g none) (.inl rfl)); have n3_ := Aside0.mk (below_step (spec_l20Pairs.s2 HB.out HI0.out) hb); clear HO_5; clear HI0; clear HK; clear HB; have HO_5 := n0_; have HI0 := n1_; have HK := n2_; have HB := n3_; clear n0_ n1_ n2_ n3_; (try clear hb); (try clear hb2); (try clear hk); (try clear hi); obtain ⟨Ao27, co27, eo27⟩ := Kd.R_slice HO_5.out; subst eo27) | ((with_reducible refine gate_callee (f := 93) rfl ?_); refine gsl (some 47) rfl Try.func93 #[.slice Ao27 x5_2.length co27, .string t206, .int .i64 x9_2] rfl ?_; (with_reducible refine (spec_PairPut.calls kj18 _ _ x5_2 t206 x9_2 t207 t208 _ ?side1 ?side2 A25.out).mono ?_); (case side1 => repeat (first | exact (Kd.R_reads' HO_5.out).2.2 | (with_reducible refine Kd.C_alloc ?_ _) | (with_reducible refine Kd.C_drewN ?_ _) | (with_reducible refine Kd.C_drew ?_))); (case side2 => exact (Kd.R_reads' HO_5.out).2.1); rintro e w28 ⟨v209, rfl, ho0, hb⟩; refine ⟨_, rfl, ?_⟩; have n0_ := Aside0.mk (Kd.R_elder' (kr HO_5.out) (Kd.R_base ho0) hb); have n1_ := Aside0.mk (Kd.R_lower (Kd.R_new' ho0 (Kd.R_lt (kr HO_5.out))) (keep_size (w := w) (g := g) (row := none) (spec_l20Pairs.s0 HK.out))); have n2_ := Aside0.mk (IsS147.below (spec_l20Pairs.s1 HI0.out) hb); have n3_ := Aside0.mk (KeepBut.trans (spec_l20Pairs.s0 HK.out) (KeepBut.of_below hb g none) (.inl rfl)); have n4_ := Aside0.mk (below_step (spec_l20Pairs.s2 HB.out HI0.out) hb); clear HO_5; clear HI0; clear HK; clear HB; have HO_5 := n0_; have HO210 := n1_; have HI0 := n2_; have HK := n3_; have HB := n4_; clear n0_ n1_ n2_ n3_ n4_; (try clear hb); (try clear hb2); (try clear hk); (try clear hi); (try clear ho0)))
                      go_roundg kj18
                      case measure => have := HK1.out; have := HK2.out; have := HJ18.out; omega
                      case rel => exact ⟨(t207), (wrap64 (x9_2 + 1)), (by first | rfl | (simp; done) | (simp [*]; done) | (simp [bne_nil_, beq_nil_]; done)), H', ⟨by have := HK1.out; have := HK2.out; have := HJ18.out; omega⟩, ⟨by (with_reducible repeat (first | apply Kd.R_alloc | apply Kd.R_drewN | apply Kd.R_drew)); exact Kd.R_mono HO210.out (fun _ hk => trivial)⟩, ⟨spec_l20Pairs.s1 HI0.out⟩, ⟨spec_l20Pairs.s0 HK.out⟩, ⟨spec_l20Pairs.s2 HB.out HI0.out⟩⟩
                    · replace c23 := Bool.eq_false_iff.mpr c23
                      subst c23
                      have H1 : (spec_l20Pairs.j3 kj18 a1 x5_2 s0_0 t205) = some (r1, r2) := by rw [if_neg (show ¬ (false = true) by decide)] at H; exact H
                      clear H
                      have H := H1
                      clear H1
                      have H' := Aside0.mk H
                      clear H
                      go_wp2
                      go_meet
                      case rel => exact ⟨_, (x5_2), H', ⟨by have := HK1.out; have := HK2.out; have := HJ18.out; first | omega | exact Nat.le_refl _⟩, ⟨by (with_reducible repeat (first | apply Kd.R_alloc | apply Kd.R_drewN | apply Kd.R_drew)); exact HO_5.out⟩, ⟨spec_l20Pairs.s1 HI0.out⟩, ⟨spec_l20Pairs.s0 HK.out⟩, ⟨spec_l20Pairs.s2 HB.out HI0.out⟩⟩
          · rw [if_neg c18] at H
            have c18b0 : (t204 == 15) = false := beq_eq_false_iff_ne.mpr c18
            have c18b1 : (t204 != 15) = true := bne_iff_ne.mpr c18
            (first | rw [c18b0] | (simp only [i64_w, i32_w]; rw [c18b0]) | skip)
            have H' := Aside0.mk H
            clear H
            go_wp2
            go_meet
            case rel => exact ⟨_, (x5_1), H', ⟨by have := HK1.out; first | omega | exact Nat.le_refl _⟩, ⟨by (with_reducible repeat (first | apply Kd.R_alloc | apply Kd.R_drewN | apply Kd.R_drew)); exact HO_5.out⟩, ⟨spec_l20Pairs.s1 HI0.out⟩, ⟨spec_l20Pairs.s0 HK.out⟩, ⟨spec_l20Pairs.s2 HB.out HI0.out⟩⟩
        case rest =>
          clear HC16
          try clear c1
          try clear c2
          try clear p2
          try clear p6
          try clear c7
          try clear c7b0
          try clear c9
          try clear c12
          try clear c18
          try clear c18b0
          try clear c18b1
          try clear c20
          try clear c20b0
          try clear c20b1
          try clear c23
          try clear p2
          try clear p6
          obtain ⟨kq, x5_15, HA, HJ15, HO_5, HI0, HK, HB⟩ := hcut
          cases kq with
          | zero => exact absurd HA.out (by simp [spec_l20Pairs.j3])
          | succ kj15 =>
            have H := HA.out
            clear HA
            simp only [spec_l20Pairs.j3] at H
            replace H := Option.bind_eq_some_iff.mp H
            obtain ⟨⟨t211, t212⟩, A290, H⟩ := H
            replace H : (if t211 = true then ((some (([(⟨(⟨#[]⟩ : ByteArray), 0⟩ : S29), (⟨(⟨#[122, 122, 122, 122]⟩ : ByteArray), (-1)⟩ : S29), (⟨(⟨#[122, 122, 122, 122]⟩ : ByteArray), 1000⟩ : S29), (⟨(⟨#[97]⟩ : ByteArray), 1⟩ : S29), (⟨(⟨#[65]⟩ : ByteArray), 0⟩ : S29)] : List (S29)) : List (S29))).bind fun y213 => ((spec_l20Rd_pick.f kj15 s0_0 t212 5).bind fun bt216 => (if 0 ≤ bt216.1 then (if bt216.1 < (y213.length : Int) then (if x5_15.length < 5864062014805 then (some ((x5_15 ++ [(⟨(rd_T29 y213 bt216.1).f0, (rd_T29 y213 bt216.1).f1⟩ : S29)]), bt216.2)) else (none)) else (none)) else (none)))) else (some (x5_15, t212))) = some (r1, r2) := H
            have A29 := Aside0.mk A290
            clear A290
            by_cases c30 : t211 = true
            · subst c30
              have H1 : ((some (([(⟨(⟨#[]⟩ : ByteArray), 0⟩ : S29), (⟨(⟨#[122, 122, 122, 122]⟩ : ByteArray), (-1)⟩ : S29), (⟨(⟨#[122, 122, 122, 122]⟩ : ByteArray), 1000⟩ : S29), (⟨(⟨#[97]⟩ : ByteArray), 1⟩ : S29), (⟨(⟨#[65]⟩ : ByteArray), 0⟩ : S29)] : List (S29)) : List (S29))).bind fun y213 => ((spec_l20Rd_pick.f kj15 s0_0 t212 5).bind fun bt216 => (if 0 ≤ bt216.1 then (if bt216.1 < (y213.length : Int) then (if x5_15.length < 5864062014805 then (some ((x5_15 ++ [(⟨(rd_T29 y213 bt216.1).f0, (rd_T29 y213 bt216.1).f1⟩ : S29)]), bt216.2)) else (none)) else (none)) else (none)))) = some (r1, r2) := by rw [if_pos rfl] at H; exact H
              clear H
              have H := H1
              clear H1
              obtain ⟨y213, hy213⟩ : ∃ y_ : List (S29), y_ = (([(⟨(⟨#[]⟩ : ByteArray), 0⟩ : S29), (⟨(⟨#[122, 122, 122, 122]⟩ : ByteArray), (-1)⟩ : S29), (⟨(⟨#[122, 122, 122, 122]⟩ : ByteArray), 1000⟩ : S29), (⟨(⟨#[97]⟩ : ByteArray), 1⟩ : S29), (⟨(⟨#[65]⟩ : ByteArray), 0⟩ : S29)] : List (S29))) := ⟨_, rfl⟩
              replace H : ((spec_l20Rd_pick.f kj15 s0_0 t212 5).bind fun bt216 => (if 0 ≤ bt216.1 then (if bt216.1 < (y213.length : Int) then (if x5_15.length < 5864062014805 then (some ((x5_15 ++ [(⟨(rd_T29 y213 bt216.1).f0, (rd_T29 y213 bt216.1).f1⟩ : S29)]), bt216.2)) else (none)) else (none)) else (none))) = some (r1, r2) := by first | (rw [hy213]; with_reducible exact H) | (have H2_ := (Option.bind_some _ _).symm.trans H; rw [hy213]; with_reducible exact H2_) | (have H2_ := (Option.bind_some _ _).symm.trans H; with_reducible exact H2_) | with_reducible exact H | (rw [hy213]; exact H) | exact H
              have Ny213 := Aside0.mk hy213
              clear hy213
              replace H := Option.bind_eq_some_iff.mp H
              obtain ⟨⟨t216, t217⟩, A310, H⟩ := H
              replace H : (if 0 ≤ t216 then (if t216 < (y213.length : Int) then (if x5_15.length < 5864062014805 then (some ((x5_15 ++ [(⟨(rd_T29 y213 t216).f0, (rd_T29 y213 t216).f1⟩ : S29)]), t217)) else (none)) else (none)) else (none)) = some (r1, r2) := H
              have A31 := Aside0.mk A310
              clear A310
              by_cases c32 : 0 ≤ t216
              · rw [if_pos c32] at H
                have c32b0 : decide (0 ≤ t216) = true := decide_eq_true c32
                clear c32
                by_cases c33 : t216 < (y213.length : Int)
                · rw [if_pos c33] at H
                  have c33b0 : decide (t216 < (y213.length : Int)) = true := decide_eq_true c33
                  clear c33
                  by_cases c34 : x5_15.length < 5864062014805
                  · rw [if_pos c34] at H
                    have LMc34 := Aside0.mk c34
                    clear c34
                    obtain ⟨y219, hy219⟩ : ∃ y_ : List (S29), y_ = (x5_15 ++ [(⟨(rd_T29 y213 t216).f0, (rd_T29 y213 t216).f1⟩ : S29)]) := ⟨_, rfl⟩
                    replace H : (some (y219, t217)) = some (r1, r2) := by first | (rw [hy219]; with_reducible exact H) | (have H2_ := (Option.bind_some _ _).symm.trans H; rw [hy219]; with_reducible exact H2_) | (have H2_ := (Option.bind_some _ _).symm.trans H; with_reducible exact H2_) | with_reducible exact H | (rw [hy219]; exact H) | exact H
                    have Ny219 := Aside0.mk hy219
                    clear hy219
                    simp only [Option.some.injEq, Prod.mk.injEq] at H
                    obtain ⟨rfl, rfl⟩ := H
                    go_wp2_with (first | ((with_reducible refine gate_callee (f := 125) rfl ?_); refine gsl (some 53) rfl Try.func125 #[.pointer (some ⟨g, 0, none⟩), .int .i64 a1] rfl ?_; (with_reducible refine (spec_l20Rd_odd.calls kj15 g s0_0 t205 a1 true t212 w0 _ ?side1 ?side2 A29.out).mono ?_); (case side1 => exact spec_l20Pairs.s1 HI0.out); (case side2 => exact spec_l20Pairs.s2 HB.out HI0.out); rintro e w35 ⟨rfl, hi, hb, hk⟩; refine ⟨_, rfl, ?_⟩; have n0_ := Aside0.mk (Kd.R_mono (Kd.R_keep (IsS147.apart (show IsS147 w0 _ g s0_0 t205 from spec_l20Pairs.s1 HI0.out) (kr HO_5.out) (by decide)) hk (fun _ h => h.2)) (fun _ h => h.1)); have n1_ := Aside0.mk (KeepBut.trans (spec_l20Pairs.s0 HK.out) hk (.inl rfl)); have n2_ := Aside0.mk (hb); have n3_ := Aside0.mk (hi); clear HO_5; clear HK; clear HB; clear HI0; have HO_5 := n0_; have HK := n1_; have HB := n2_; have HI0 := n3_; clear n0_ n1_ n2_ n3_; (try clear hb); (try clear hb2); (try clear hk); (try clear hi)) | ((with_reducible refine gate_dst (N := 60) rfl ?_); refine Kd.R_lit k29 _ 29 ?hg (N := 60) ?hd (xs := ([(⟨(⟨#[]⟩ : ByteArray), 0⟩ : S29), (⟨(⟨#[122, 122, 122, 122]⟩ : ByteArray), (-1)⟩ : S29), (⟨(⟨#[122, 122, 122, 122]⟩ : ByteArray), 1000⟩ : S29), (⟨(⟨#[97]⟩ : ByteArray), 1⟩ : S29), (⟨(⟨#[65]⟩ : ByteArray), 0⟩ : S29)] : List (S29))) (inner := [.string (⟨#[]⟩ : ByteArray), .int .i64 0, .string (⟨#[122, 122, 122, 122]⟩ : ByteArray), .int .i64 (-1), .string (⟨#[122, 122, 122, 122]⟩ : ByteArray), .int .i64 1000, .string (⟨#[97]⟩ : ByteArray), .int .i64 1, .string (⟨#[65]⟩ : ByteArray), .int .i64 0]) (ok := fun _ => True) (okp := fun _ => True) ?hr ?hp (fun _ hk => hk) trivial (Below.refl _ _) (Nat.le_refl _) (by simp) ?_; (case hd => rfl); (case hg => rfl); (case hr => first | (go_simp; done) | (go_simp; rfl)); (case hp => exact (Reps.c2 (show Kd.M k29 _ _ _ (⟨(⟨#[]⟩ : ByteArray), 0⟩ : S29) [.string (⟨#[]⟩ : ByteArray), .int .i64 0] from (k29_mkM _ _ _ (⟨(⟨#[]⟩ : ByteArray), 0⟩ : S29) )) (Reps.c2 (show Kd.M k29 _ _ _ (⟨(⟨#[122, 122, 122, 122]⟩ : ByteArray), (-1)⟩ : S29) [.string (⟨#[122, 122, 122, 122]⟩ : ByteArray), .int .i64 (-1)] from (k29_mkM _ _ _ (⟨(⟨#[122, 122, 122, 122]⟩ : ByteArray), (-1)⟩ : S29) )) (Reps.c2 (show Kd.M k29 _ _ _ (⟨(⟨#[122, 122, 122, 122]⟩ : ByteArray), 1000⟩ : S29) [.string (⟨#[122, 122, 122, 122]⟩ : ByteArray), .int .i64 1000] from (k29_mkM _ _ _ (⟨(⟨#[122, 122, 122, 122]⟩ : ByteArray), 1000⟩ : S29) )) (Reps.c2 (show Kd.M k29 _ _ _ (⟨(⟨#[97]⟩ : ByteArray), 1⟩ : S29) [.string (⟨#[97]⟩ : ByteArray), .int .i64 1] from (k29_mkM _ _ _ (⟨(⟨#[97]⟩ : ByteArray), 1⟩ : S29) )) (Reps.c2 (show Kd.M k29 _ _ _ (⟨(⟨#[65]⟩ : ByteArray), 0⟩ : S29) [.string (⟨#[65]⟩ : ByteArray), .int .i64 0] from (k29_mkM _ _ _ (⟨(⟨#[65]⟩ : ByteArray), 0⟩ : S29) )) (Reps.none _ _))))))); intro v214 w36 ho37 hb hg_ hnew_; clear hg_ hnew_; (first | rw [← Ny213.out] at ho37 | (simp only [Int.reduceToNat] at ho37; rw [← Ny213.out] at ho37)); have n0_ := Aside0.mk (Kd.R_elder' (kr HO_5.out) (Kd.R_base ho37) hb); have n1_ := Aside0.mk (Kd.R_lower (Kd.R_new' ho37 (Kd.R_lt (kr HO_5.out))) (keep_size (w := w) (g := g) (row := none) (spec_l20Pairs.s0 HK.out))); have n2_ := Aside0.mk (IsS147.below (spec_l20Pairs.s1 HI0.out) hb); have n3_ := Aside0.mk (KeepBut.trans (spec_l20Pairs.s0 HK.out) (KeepBut.of_below hb g none) (.inl rfl)); have n4_ := Aside0.mk (below_step (spec_l20Pairs.s2 HB.out HI0.out) hb); clear HO_5; clear HI0; clear HK; clear HB; have HO_5 := n0_; have HO215 := n1_; have HI0 := n2_; have HK := n3_; have HB := n4_; clear n0_ n1_ n2_ n3_ n4_; clear hb ho37) | ((with_reducible refine gate_callee (f := 78) rfl ?_); refine gsl (some 62) rfl Try.func78 #[.pointer (some ⟨g, 0, none⟩), .int .i64 5] rfl ?_; (with_reducible refine (spec_l20Rd_pick.calls kj15 g s0_0 t212 5 t216 t217 w0 _ ?side1 ?side2 A31.out).mono ?_); (case side1 => exact spec_l20Pairs.s1 HI0.out); (case side2 => exact spec_l20Pairs.s2 HB.out HI0.out); rintro e w38 ⟨rfl, hi, hb, hk⟩; refine ⟨_, rfl, ?_⟩; have n0_ := Aside0.mk (Kd.R_mono (Kd.R_keep (IsS147.apart (show IsS147 w0 _ g s0_0 t212 from spec_l20Pairs.s1 HI0.out) (kr HO_5.out) (by decide)) hk (fun _ h => h.2)) (fun _ h => h.1)); have n1_ := Aside0.mk (Kd.R_mono (Kd.R_keep (IsS147.apart (show IsS147 w0 _ g s0_0 t212 from spec_l20Pairs.s1 HI0.out) (kr HO215.out) (by decide)) hk (fun _ h => h.2)) (fun _ h => h.1)); have n2_ := Aside0.mk (KeepBut.trans (spec_l20Pairs.s0 HK.out) hk (.inl rfl)); have n3_ := Aside0.mk (hb); have n4_ := Aside0.mk (hi); clear HO_5; clear HO215; clear HK; clear HB; clear HI0; have HO_5 := n0_; have HO215 := n1_; have HK := n2_; have HB := n3_; have HI0 := n4_; clear n0_ n1_ n2_ n3_ n4_; (try clear hb); (try clear hb2); (try clear hk); (try clear hi); obtain ⟨Ao39, co39, eo39⟩ := Kd.R_slice HO215.out; subst eo39; have p218 : 0 ≤ (t216 : Int) := of_decide_eq_true (by first | (with_reducible assumption) | assumption); have q218 : t216 < (y213.length : Int) := of_decide_eq_true (by first | (with_reducible assumption) | assumption); obtain ⟨ad218, e218, hx218_0, hx218_1⟩ := at_T29 (Kd.R_reads' HO215.out).2.2 t216 p218 q218; cases e218; replace p218 := eq_true p218; replace q218 := eq_true q218) | ((with_reducible refine gate_builtin (b := .append) (xs := #[.tmp 54, .tmp 65]) rfl ?_); at_builtin; refine Kd.R_append k29 w.heap.size rfl (.tmp 54) (.tmp 65) 23 29 (.agg #[(.string ⟨#[]⟩), (.int .i64 0)]) 24 rfl Try.underlying23 info29 rfl (by decide) (by omega) u5 x5_15 (⟨(rd_T29 y213 t216).f0, (rd_T29 y213 t216).f1⟩ : S29) [.string ((rd_T29 y213 t216).f0), .int .i64 ((rd_T29 y213 t216).f1)] (fun k_ => some k_ ≠ (.slice (some ad218) y213.length co39 : Value).ownBlock) (fun _ => False) rfl rfl ?aP (fun _ hk => hk.elim) ?aF ?aO (Below.refl _ _) ?aS ?aL ?_; (case aP => exact k29_mkM _ _ _ (⟨(rd_T29 y213 t216).f0, (rd_T29 y213 t216).f1⟩ : S29)); (case aF => exact (fun k_ hk => Kd.fresh' (Kd.R_lt (kr HO215.out)) k_ hk)); (case aO => exact (by (with_reducible repeat (first | apply Kd.R_alloc | apply Kd.R_drewN | apply Kd.R_drew)); exact Kd.R_mono HO_5.out (fun _ hk => hk.2))); (case aS => exact (keep_size (w := w) (g := g) (row := none) (spec_l20Pairs.s0 HK.out))); (case aL => have := LMc34.out; omega); intro v220 w40 ho hb hg hat; rw [← Ny219.out] at ho; have n0_ := Aside0.mk (IsS147.grown (spec_l20Pairs.s1 HI0.out) hg (IsS147.own_ne HI0.out HO_5.out (by decide))); have n1_ := Aside0.mk (Kd.R_after (ok := (fun _ => True)) (kr HO215.out) hg hat); have n2_ := Aside0.mk (below_weaken (spec_l20Pairs.s2 HB.out HI0.out) HL.out hb); have n3_ := Aside0.mk (KeepBut.trans (spec_l20Pairs.s0 HK.out) (KeepBut.of_grown hg g) (Kd.R_base2 HO_5.out)); have n4_ := Aside0.mk (ho); clear HI0; clear HO215; clear HB; clear HK; clear HO_5; have HI0 := n0_; have HO215 := n1_; have HB := n2_; have HK := n3_; have HO221 := n4_; clear n0_ n1_ n2_ n3_ n4_; clear ho hb hg hat))
                    go_ret
                    exact ⟨_, fe, by (with_reducible repeat (first | apply Kd.R_alloc | apply Kd.R_drewN | apply Kd.R_drew)); exact Kd.R_mono HO221.out (fun _ hk => trivial), spec_l20Pairs.s1 HI0.out, spec_l20Pairs.s2 HB.out HI0.out, spec_l20Pairs.s0 HK.out⟩
                  · rw [if_neg c34] at H
                    exact absurd H (by simp)
                · rw [if_neg c33] at H
                  exact absurd H (by simp)
              · rw [if_neg c32] at H
                exact absurd H (by simp)
            · replace c30 := Bool.eq_false_iff.mpr c30
              subst c30
              have H1 : (some (x5_15, t212)) = some (r1, r2) := by rw [if_neg (show ¬ (false = true) by decide)] at H; exact H
              clear H
              have H := H1
              clear H1
              simp only [Option.some.injEq, Prod.mk.injEq] at H
              obtain ⟨rfl, rfl⟩ := H
              go_wp2_with (first | ((with_reducible refine gate_callee (f := 125) rfl ?_); refine gsl (some 53) rfl Try.func125 #[.pointer (some ⟨g, 0, none⟩), .int .i64 a1] rfl ?_; (with_reducible refine (spec_l20Rd_odd.calls kj15 g s0_0 t205 a1 false t212 w0 _ ?side1 ?side2 A29.out).mono ?_); (case side1 => exact spec_l20Pairs.s1 HI0.out); (case side2 => exact spec_l20Pairs.s2 HB.out HI0.out); rintro e w41 ⟨rfl, hi, hb, hk⟩; refine ⟨_, rfl, ?_⟩; have n0_ := Aside0.mk (Kd.R_mono (Kd.R_keep (IsS147.apart (show IsS147 w0 _ g s0_0 t205 from spec_l20Pairs.s1 HI0.out) (kr HO_5.out) (by decide)) hk (fun _ h => h.2)) (fun _ h => h.1)); have n1_ := Aside0.mk (KeepBut.trans (spec_l20Pairs.s0 HK.out) hk (.inl rfl)); have n2_ := Aside0.mk (hb); have n3_ := Aside0.mk (hi); clear HO_5; clear HK; clear HB; clear HI0; have HO_5 := n0_; have HK := n1_; have HB := n2_; have HI0 := n3_; clear n0_ n1_ n2_ n3_; (try clear hb); (try clear hb2); (try clear hk); (try clear hi)))
              go_ret
              exact ⟨_, fe, by (with_reducible repeat (first | apply Kd.R_alloc | apply Kd.R_drewN | apply Kd.R_drew)); exact HO_5.out, spec_l20Pairs.s1 HI0.out, spec_l20Pairs.s2 HB.out HI0.out, spec_l20Pairs.s0 HK.out⟩

/-! ### spec_l20Open: function 71 -/
def spec_l20Open.f (l0 : List Int) : Option (List Int × Int) := if (l0.length : Int) > 2000 then (if 2000 ≤ (l0.length : Int) then (some ((l0.take 2000), 0)) else (none)) else (some (l0, 0))
set_option maxHeartbeats 8000000 in
set_option maxRecDepth 100000 in
theorem spec_l20Open.calls (A0 : Option Addr) (c0 : Nat) (l0 : List Int) (r1 : List Int) (r2 : Int) (w0 w : World) (hB : Below w0.heap.size w0 w) (hr0 : Kd.C (Kd.int .u8) w0 A0 l0.length l0) (hc0 : l0.length ≤ c0) (h : spec_l20Open.f l0 = some (r1, r2)) :
    Calls Try.prog 71 #[.slice A0 l0.length c0] w fun e w' => ∃ g_ : Nat, e = .returned (.pointer (some ⟨g_, 0, none⟩)) ∧ IsS147 w0 w' g_ r1 r2 ∧ Below w0.heap.size w0 w' ∧ Below w.heap.size w w' := by
  have hu147 := Try.underlying147
  have HR0 := Aside0.mk hr0
  have HC0 := Aside0.mk hc0
  clear hr0 hc0
  have HBW := Aside0.mk (Below.refl w.heap.size w)
  have HW0 := Aside0.mk hB.size
  have HB := Aside0.mk hB
  clear hB
  have H : (if (l0.length : Int) > 2000 then (if 2000 ≤ (l0.length : Int) then (some ((l0.take 2000), 0)) else (none)) else (some (l0, 0))) = some (r1, r2) := h
  clear h
  by_cases c2 : (l0.length : Int) > 2000
  · rw [if_pos c2] at H
    have c2b0 : decide (2000 < (l0.length : Int)) = true := decide_eq_true c2
    have c2b1 : decide (2000 < l0.length) = true := decide_eq_true (by omega)
    clear c2
    by_cases c3 : 2000 ≤ (l0.length : Int)
    · rw [if_pos c3] at H
      have c3b0 := eq_true c3
      have c3b1 : decide (2000 ≤ (l0.length : Int)) = true := decide_eq_true c3
      clear c3
      obtain ⟨y222, hy222⟩ : ∃ y_ : List Int, y_ = (l0.take 2000) := ⟨_, rfl⟩
      replace H : (some (y222, 0)) = some (r1, r2) := by first | (rw [hy222]; with_reducible exact H) | (have H2_ := (Option.bind_some _ _).symm.trans H; rw [hy222]; with_reducible exact H2_) | (have H2_ := (Option.bind_some _ _).symm.trans H; with_reducible exact H2_) | with_reducible exact H | (rw [hy222]; exact H) | exact H
      have Ny222 := Aside0.mk hy222
      clear hy222
      simp only [Option.some.injEq, Prod.mk.injEq] at H
      obtain ⟨rfl, rfl⟩ := H
      have q4 : (2000 : Int) ≤ ((l0.length : Int) : Int) := of_decide_eq_true (by first | (with_reducible assumption) | assumption)
      obtain ⟨i04, hi04, _, hsz4, _⟩ := info_parts info5
      have hroom4 : l0.length ≤ c0 := HC0.out
      have hC4 : Kd.C (Kd.int .u8) _ A0 l0.length l0 := HR0.out
      have hcut4 := cut_to (P := Try.prog) 22 5 .i64 Try.underlying22 hi04 A0 l0.length c0 2000 (by omega) q4 hroom4
      have hr4 := Kd.C_take (m := 2000) hC4 (by omega)
      have hy4 : y222.length = (2000 : Int).toNat := (by rw [Ny222.out, List.length_take]; omega)
      rw [← Ny222.out] at hr4
      rw [← hy4] at hcut4
      have HR225 := Aside0.mk hr4
      have HC225 := Aside0.mk (show y222.length ≤ c0 from by omega)
      clear hr4 hC4 hroom4 hi04 hsz4
      have KY4 := Aside0.mk hy4
      clear hy4
      replace q4 := eq_true q4
      go_enter Try.func71, Try.ntmps71
      go_wp2_with (first | ((with_reducible refine gate_dst (N := 10) rfl ?_); refine bxe (N := 10) (cs := #[.slice A0 y222.length c0, .int .i64 0]) (t := 147) ?_; intro gb226 hg w5 hbox hb; have n0_ := Aside0.mk (below_step HBW.out hb); have n1_ := an0 HB hb; have n2_ := Aside0.mk (hbox); have n3_ := an2 HBW hg; have n4_ := Aside0.mk ((Nat.le_trans HW0.out (by rw [hg]; exact (below_size (bp HBW.out)) : w.heap.size ≤ gb226) : w0.heap.size ≤ gb226)); clear HBW; clear HB; have HBW := n0_; have HB := n1_; have BK226 := n2_; have GW226 := n3_; have GE226 := n4_; clear n0_ n1_ n2_ n3_ n4_; clear hb hbox hg))
      go_ret
      exact ⟨_, rfl, (show IsS147 w0 _ gb226 y222 0 from ⟨_, _, kb BK226.out, GE226.out, HR225.out⟩), bp HB.out, bp HBW.out⟩
    · rw [if_neg c3] at H
      exact absurd H (by simp)
  · rw [if_neg c2] at H
    have c2b0 : decide (2000 < (l0.length : Int)) = false := decide_eq_false c2
    have c2b1 : decide (2000 < l0.length) = false := decide_eq_false (by omega)
    clear c2
    simp only [Option.some.injEq, Prod.mk.injEq] at H
    obtain ⟨rfl, rfl⟩ := H
    go_enter Try.func71, Try.ntmps71
    go_wp2_with (first | ((with_reducible refine gate_dst (N := 10) rfl ?_); refine bxe (N := 10) (cs := #[.slice A0 l0.length c0, .int .i64 0]) (t := 147) ?_; intro gb227 hg w6 hbox hb; have n0_ := Aside0.mk (below_step HBW.out hb); have n1_ := an0 HB hb; have n2_ := Aside0.mk (hbox); have n3_ := an2 HBW hg; have n4_ := Aside0.mk ((Nat.le_trans HW0.out (by rw [hg]; exact (below_size (bp HBW.out)) : w.heap.size ≤ gb227) : w0.heap.size ≤ gb227)); clear HBW; clear HB; have HBW := n0_; have HB := n1_; have BK227 := n2_; have GW227 := n3_; have GE227 := n4_; clear n0_ n1_ n2_ n3_ n4_; clear hb hbox hg))
    go_ret
    exact ⟨_, rfl, (show IsS147 w0 _ gb227 l0 0 from ⟨_, _, kb BK227.out, GE227.out, HR0.out⟩), bp HB.out, bp HBW.out⟩

/-! ### spec_DrawPairsDigest: function 14 -/
def spec_DrawPairsDigest.f (k : Nat) (l0 : List Int) : Option ((List (S29))) := (spec_l20Open.f l0).bind fun bt228 => ((spec_l20Pairs.f k bt228.1 bt228.2 9).bind fun bt231 => (some bt231.1))
theorem spec_DrawPairsDigest.mono : ∀ a0 k, LeO (spec_DrawPairsDigest.f k a0) (spec_DrawPairsDigest.f (k + 1) a0) := by
  intro a0 k
  unfold spec_DrawPairsDigest.f
  repeat' first
      | (with_reducible exact spec_l20Pairs.mono _ _ _ _)
      | (with_reducible exact LeO.refl _)
      | (with_reducible exact LeO.none _)
      | (with_reducible refine LeO.ite ?_ ?_)
      | (with_reducible refine LeO.bind ?_ (fun _ => ?_))
      | exact spec_l20Pairs.mono _ _ _ _
      | exact LeO.none _
      | refine LeO.ite ?_ ?_
      | refine LeO.bind ?_ (fun _ => ?_)
theorem spec_DrawPairsDigest.s0 {P0 P1 Q : Prop} (B0 : P0) (B1 : P1) (h : P0 → P1 → Q := by (intro b0_ b1_; repeat (first | (with_reducible first | exact b0_ | apply below_alloc | apply pw_below_drewN | apply below_drew1 | refine below_set ?_ (IsS147.ge b1_)) | exact b0_))) : Q := h B0 B1
set_option maxHeartbeats 8000000 in
set_option maxRecDepth 100000 in
theorem spec_DrawPairsDigest.calls (k : Nat) (A0 : Option Addr) (c0 : Nat) (l0 : List Int) (r : List (S29)) (w : World) (hr0 : Kd.C (Kd.int .u8) w A0 l0.length l0) (hc0 : l0.length ≤ c0) (h : spec_DrawPairsDigest.f k l0 = some r) :
    Calls Try.prog 14 #[.slice A0 l0.length c0] w fun e w' => ∃ v0_ : Value, e = .returned (v0_) ∧ Kd.R k29 29 w' w.heap.size (fun _ => True) v0_ r ∧ Below w.heap.size w w' := by
  have HR0 := Aside0.mk hr0
  have HC0 := Aside0.mk hc0
  clear hr0 hc0
  have HB := Aside0.mk (Below.refl w.heap.size w)
  have H : ((spec_l20Open.f l0).bind fun bt228 => ((spec_l20Pairs.f k bt228.1 bt228.2 9).bind fun bt231 => (some bt231.1))) = some r := h
  clear h
  replace H := Option.bind_eq_some_iff.mp H
  obtain ⟨⟨t228, t229⟩, A20, H⟩ := H
  replace H : ((spec_l20Pairs.f k t228 t229 9).bind fun bt231 => (some bt231.1)) = some r := H
  have A2 := Aside0.mk A20
  clear A20
  replace H := Option.bind_eq_some_iff.mp H
  obtain ⟨⟨t231, t234⟩, A30, H⟩ := H
  replace H : (some t231) = some r := H
  have A3 := Aside0.mk A30
  clear A30
  obtain rfl := Option.some.inj H
  go_enter Try.func14, Try.ntmps14
  go_wp2_with (first | ((with_reducible refine gate_callee (f := 71) rfl ?_); refine gsl (some 4) rfl Try.func71 #[.slice A0 l0.length c0] rfl ?_; (with_reducible refine (spec_l20Open.calls _ _ l0 t228 t229 w _ ?side1 ?side2 ?side3 A2.out).mono ?_); (case side1 => repeat (first | (with_reducible first | exact HB.out | apply below_alloc | apply pw_below_drewN | apply below_drew1) | exact HB.out)); (case side2 => exact HR0.out); (case side3 => exact HC0.out); rintro e w4 ⟨g230, rfl, hi, hb, hb2⟩; refine ⟨_, rfl, ?_⟩; have n0_ := Aside0.mk (hb); have n1_ := Aside0.mk (hi); clear HB; have HB := n0_; have HI230 := n1_; clear n0_ n1_; (try clear hb); (try clear hb2); (try clear hk); (try clear hi)) | ((with_reducible refine gate_callee (f := 70) rfl ?_); refine gsl (some 5) rfl Try.func70 #[.pointer (some ⟨g230, 0, none⟩), .int .i64 9] rfl ?_; (with_reducible refine (spec_l20Pairs.calls k g230 t228 t229 9 t231 t234 w _ ?side1 ?side2 A3.out).mono ?_); (case side1 => repeat (first | (with_reducible first | exact HI230.out | apply IsS147.alloc | apply IsS147.drewN | apply IsS147.drew | apply IsS147.set_1) | exact HI230.out)); (case side2 => exact spec_DrawPairsDigest.s0 HB.out HI230.out); rintro e w5 ⟨v232, rfl, ho0, hi, hb, hk⟩; refine ⟨_, rfl, ?_⟩; have n0_ := Aside0.mk (Kd.R_lower ho0 (below_size (spec_DrawPairsDigest.s0 HB.out HI230.out))); have n1_ := Aside0.mk (hb); have n2_ := Aside0.mk (hi); clear HB; clear HI230; have HO233 := n0_; have HB := n1_; have HI230 := n2_; clear n0_ n1_ n2_; (try clear hb); (try clear hb2); (try clear hk); (try clear hi); (try clear ho0)))
  go_ret
  exact ⟨_, fe, by (with_reducible repeat (first | apply Kd.R_alloc | apply Kd.R_drewN | apply Kd.R_drew)); exact HO233.out, spec_DrawPairsDigest.s0 HB.out HI230.out⟩

/-! ### impl_lettersOnly: function 127 -/
def impl_lettersOnly.f : Nat → ByteArray → Option (Bool)
  | 0, _ => none
  | k + 1, a0 => if a0.toList = ([] : List UInt8) then (some true) else (if 0 < (a0.size : Int) then (if (bt a0 0) ≥ 97 then (if (bt a0 0) ≤ 122 then (if 1 ≤ (a0.size : Int) then ((impl_lettersOnly.f k (a0.extract 1 a0.size)).bind fun t235 => (some t235)) else (none)) else (some false)) else (some false)) else (none))
theorem impl_lettersOnly.mono_l : ∀ k, (∀ y0, LeO (impl_lettersOnly.f k y0) (impl_lettersOnly.f (k + 1) y0))
  | 0 => fun _ r h => by simp [impl_lettersOnly.f] at h
  | k + 1 => by
    have ih0 := impl_lettersOnly.mono_l k
    · intro y0
      unfold impl_lettersOnly.f
      repeat' first
      | (with_reducible exact ih0 _)
      | (with_reducible exact LeO.refl _)
      | (with_reducible exact LeO.none _)
      | (with_reducible refine LeO.ite ?_ ?_)
      | (with_reducible refine LeO.bind ?_ (fun _ => ?_))
      | exact ih0 _
      | exact LeO.none _
      | refine LeO.ite ?_ ?_
      | refine LeO.bind ?_ (fun _ => ?_)
theorem impl_lettersOnly.mono : ∀ a0 k, LeO (impl_lettersOnly.f k a0) (impl_lettersOnly.f (k + 1) a0) := by
  intro a0 k
  have ih0 := impl_lettersOnly.mono_l k
  exact ih0 a0
set_option maxHeartbeats 8000000 in
set_option maxRecDepth 100000 in
theorem impl_lettersOnly.calls (k : Nat) : ∀ (a0 : ByteArray) (r : Bool) (w : World) (h : impl_lettersOnly.f k a0 = some r),
    Calls Try.prog 127 #[.string a0] w fun e w' => e = .returned (.bool r) ∧ Drawn0 w w' := by
  induction k using Nat.strongRecOn with
  | _ k ih =>
  intro a0 r w h
  cases k with
  | zero => exact absurd h (by simp [impl_lettersOnly.f])
  | succ k =>
  simp only [impl_lettersOnly.f] at h
  have H : (if a0.toList = ([] : List UInt8) then (some true) else (if 0 < (a0.size : Int) then (if (bt a0 0) ≥ 97 then (if (bt a0 0) ≤ 122 then (if 1 ≤ (a0.size : Int) then ((impl_lettersOnly.f k (a0.extract 1 a0.size)).bind fun t235 => (some t235)) else (none)) else (some false)) else (some false)) else (none))) = some r := h
  clear h
  by_cases c2 : a0.toList = ([] : List UInt8)
  · rw [if_pos c2] at H
    have c2b0 : (a0.toList == ([] : List UInt8)) = true := beq_iff_eq.mpr c2
    have c2b1 : (a0.toList != ([] : List UInt8)) = false := bne_eq_false_iff_eq.mpr c2
    clear c2
    obtain rfl := Option.some.inj H
    go_enter Try.func127, Try.ntmps127
    go_wp2
    go_ret
    exact ⟨by first | rfl | (simp; done) | (simp [*]; done) | (simp [bne_nil_, beq_nil_]; done), by repeat (first | exact Drawn0.refl _ | apply Drawn0.step)⟩
  · rw [if_neg c2] at H
    have c2b0 : (a0.toList == ([] : List UInt8)) = false := beq_eq_false_iff_ne.mpr c2
    have c2b1 : (a0.toList != ([] : List UInt8)) = true := bne_iff_ne.mpr c2
    by_cases c3 : 0 < (a0.size : Int)
    · rw [if_pos c3] at H
      have c3b0 : decide (0 < (a0.size : Int)) = true := decide_eq_true c3
      have c3b1 : decide (0 < a0.size) = true := decide_eq_true (by omega)
      clear c3
      by_cases c5 : (bt a0 0) ≥ 97
      · rw [if_pos c5] at H
        have c5b0 : decide (97 ≤ (bt a0 0)) = true := decide_eq_true c5
        clear c5
        by_cases c7 : (bt a0 0) ≤ 122
        · rw [if_pos c7] at H
          have c7b0 : decide ((bt a0 0) ≤ 122) = true := decide_eq_true c7
          clear c7
          by_cases c8 : 1 ≤ (a0.size : Int)
          · rw [if_pos c8] at H
            have c8b0 := eq_true c8
            have c8b1 : decide (1 ≤ (a0.size : Int)) = true := decide_eq_true c8
            clear c8
            replace H := Option.bind_eq_some_iff.mp H
            obtain ⟨t235, A90, H⟩ := H
            replace H : (some t235) = some r := H
            have A9 := Aside0.mk A90
            clear A90
            obtain rfl := Option.some.inj H
            have p4 : 0 ≤ (0 : Int) := (by omega)
            have q4 : 0 < a0.size := (by have : (0 : Int) < (a0.size : Int) := of_decide_eq_true (by first | (with_reducible assumption) | assumption); omega)
            have hx4 : ∀ h : 0 < a0.size, ((a0[0]'h).toNat : Int) = bt a0 0 := bt_at a0 0
            clear p4
            have qi4 : (0 < (a0.size : Int)) = True := eq_true (of_decide_eq_true (by first | (with_reducible assumption) | assumption))
            replace q4 := eq_true q4
            have p6 : 0 ≤ (0 : Int) := (by omega)
            have q6 : 0 < a0.size := (by have : (0 : Int) < (a0.size : Int) := of_decide_eq_true (by first | (with_reducible assumption) | assumption); omega)
            have hx6 : ∀ h : 0 < a0.size, ((a0[0]'h).toNat : Int) = bt a0 0 := bt_at a0 0
            clear p6
            have qi6 : (0 < (a0.size : Int)) = True := eq_true (of_decide_eq_true (by first | (with_reducible assumption) | assumption))
            replace q6 := eq_true q6
            go_enter Try.func127, Try.ntmps127
            go_wp2_with (first | (go_at_call 127; (with_reducible refine (ih k (by omega) (a0.extract 1 a0.size) t235 _ A9.out).mono ?_); rintro e w' ⟨rfl, ⟨nd, rfl⟩⟩))
            go_ret
            exact ⟨by first | rfl | (simp; done) | (simp [*]; done) | (simp [bne_nil_, beq_nil_]; done), by repeat (first | exact Drawn0.refl _ | apply Drawn0.step)⟩
          · rw [if_neg c8] at H
            exact absurd H (by simp)
        · rw [if_neg c7] at H
          have c7b0 : decide ((bt a0 0) ≤ 122) = false := decide_eq_false c7
          clear c7
          obtain rfl := Option.some.inj H
          have p4 : 0 ≤ (0 : Int) := (by omega)
          have q4 : 0 < a0.size := (by have : (0 : Int) < (a0.size : Int) := of_decide_eq_true (by first | (with_reducible assumption) | assumption); omega)
          have hx4 : ∀ h : 0 < a0.size, ((a0[0]'h).toNat : Int) = bt a0 0 := bt_at a0 0
          clear p4
          have qi4 : (0 < (a0.size : Int)) = True := eq_true (of_decide_eq_true (by first | (with_reducible assumption) | assumption))
          replace q4 := eq_true q4
          have p6 : 0 ≤ (0 : Int) := (by omega)
          have q6 : 0 < a0.size := (by have : (0 : Int) < (a0.size : Int) := of_decide_eq_true (by first | (with_reducible assumption) | assumption); omega)
          have hx6 : ∀ h : 0 < a0.size, ((a0[0]'h).toNat : Int) = bt a0 0 := bt_at a0 0
          clear p6
          have qi6 : (0 < (a0.size : Int)) = True := eq_true (of_decide_eq_true (by first | (with_reducible assumption) | assumption))
          replace q6 := eq_true q6
          go_enter Try.func127, Try.ntmps127
          go_wp2
          go_ret
          exact ⟨by first | rfl | (simp; done) | (simp [*]; done) | (simp [bne_nil_, beq_nil_]; done), by repeat (first | exact Drawn0.refl _ | apply Drawn0.step)⟩
      · rw [if_neg c5] at H
        have c5b0 : decide (97 ≤ (bt a0 0)) = false := decide_eq_false c5
        clear c5
        obtain rfl := Option.some.inj H
        have p4 : 0 ≤ (0 : Int) := (by omega)
        have q4 : 0 < a0.size := (by have : (0 : Int) < (a0.size : Int) := of_decide_eq_true (by first | (with_reducible assumption) | assumption); omega)
        have hx4 : ∀ h : 0 < a0.size, ((a0[0]'h).toNat : Int) = bt a0 0 := bt_at a0 0
        clear p4
        have qi4 : (0 < (a0.size : Int)) = True := eq_true (of_decide_eq_true (by first | (with_reducible assumption) | assumption))
        replace q4 := eq_true q4
        go_enter Try.func127, Try.ntmps127
        go_wp2
        go_ret
        exact ⟨by first | rfl | (simp; done) | (simp [*]; done) | (simp [bne_nil_, beq_nil_]; done), by repeat (first | exact Drawn0.refl _ | apply Drawn0.step)⟩
    · rw [if_neg c3] at H
      exact absurd H (by simp)

end Go.Proofs.Ytfeeifefmenlmaa.PFnPairsDigest
