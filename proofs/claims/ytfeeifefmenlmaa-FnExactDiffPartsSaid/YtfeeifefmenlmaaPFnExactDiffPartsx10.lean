-- Written by a program of this session, in the manner of the kit's print (wip/pp.py): functions and their contracts.
import Derived.Test.YtfeeifefmenlmaaPFnExactDiffPartsx0
import Derived.Test.YtfeeifefmenlmaaPFnExactDiffPartsx9
namespace Go.Proofs.Ytfeeifefmenlmaa.PFnExactDiffParts
open Go.RowKit Go.Proofs.YtfeeifefmenlmaaW.PrintWords Go.Proofs.YtfeeifefmenlmaaW.PrintLast Go.Proofs.YtfeeifefmenlmaaW.PrintMore
attribute [local go_sem] binOp_leq_str binOp_gtr_str binOp_geq_str max2_int min2_int max_two min_two max_three min_three max_four min_four   -- for this text's walks alone
set_option linter.unusedVariables false
set_option linter.unusedSimpArgs false

/-! ### impl_IntervalJoin: function 107 -/
def impl_IntervalJoin.f (k : Nat) (a0_0 : ByteArray) (a0_1 : ByteArray) (a1_0 : ByteArray) (a1_1 : ByteArray) : Option (ByteArray × ByteArray × Bool) := (impl_IntervalValid.f k a0_0 a0_1).bind fun t264 => (if t264 = true then ((impl_IntervalValid.f k a1_0 a1_1).bind fun t265 => (if t265 = true then (if a0_1.toList = ([] : List UInt8) then (some ((⟨#[]⟩ : ByteArray), (⟨#[]⟩ : ByteArray), false)) else (if a0_1.toList = a1_0.toList then (some (a0_0, a1_1, true)) else (some ((⟨#[]⟩ : ByteArray), (⟨#[]⟩ : ByteArray), false)))) else (some ((⟨#[]⟩ : ByteArray), (⟨#[]⟩ : ByteArray), false)))) else (some ((⟨#[]⟩ : ByteArray), (⟨#[]⟩ : ByteArray), false)))
theorem impl_IntervalJoin.mono : ∀ a0 a1 a2 a3 k, LeO (impl_IntervalJoin.f k a0 a1 a2 a3) (impl_IntervalJoin.f (k + 1) a0 a1 a2 a3) := by
  intro a0 a1 a2 a3 k
  unfold impl_IntervalJoin.f
  repeat' first
      | (with_reducible exact impl_IntervalValid.mono _ _ _)
      | (with_reducible exact LeO.refl _)
      | (with_reducible exact LeO.none _)
      | (with_reducible refine LeO.ite ?_ ?_)
      | (with_reducible refine LeO.bind ?_ (fun _ => ?_))
      | exact impl_IntervalValid.mono _ _ _
      | exact LeO.none _
      | refine LeO.ite ?_ ?_
      | refine LeO.bind ?_ (fun _ => ?_)
set_option maxHeartbeats 8000000 in
set_option maxRecDepth 100000 in
theorem impl_IntervalJoin.calls (k : Nat) (a0_0 : ByteArray) (a0_1 : ByteArray) (a1_0 : ByteArray) (a1_1 : ByteArray) (r1 : ByteArray) (r2 : ByteArray) (r3 : Bool) (w : World) (h : impl_IntervalJoin.f k a0_0 a0_1 a1_0 a1_1 = some (r1, r2, r3)) :
    Calls Try.prog 107 #[.agg #[.string a0_0, .string a0_1], .agg #[.string a1_0, .string a1_1]] w fun e w' => e = .returned (.tuple #[.agg #[.string r1, .string r2], .bool r3]) ∧ Below w.heap.size w w' := by
  have hu83 := Try.underlying83
  have HB := Aside0.mk (Below.refl w.heap.size w)
  have H : ((impl_IntervalValid.f k a0_0 a0_1).bind fun t264 => (if t264 = true then ((impl_IntervalValid.f k a1_0 a1_1).bind fun t265 => (if t265 = true then (if a0_1.toList = ([] : List UInt8) then (some ((⟨#[]⟩ : ByteArray), (⟨#[]⟩ : ByteArray), false)) else (if a0_1.toList = a1_0.toList then (some (a0_0, a1_1, true)) else (some ((⟨#[]⟩ : ByteArray), (⟨#[]⟩ : ByteArray), false)))) else (some ((⟨#[]⟩ : ByteArray), (⟨#[]⟩ : ByteArray), false)))) else (some ((⟨#[]⟩ : ByteArray), (⟨#[]⟩ : ByteArray), false)))) = some (r1, r2, r3) := h
  clear h
  replace H := Option.bind_eq_some_iff.mp H
  obtain ⟨t264, A30, H⟩ := H
  replace H : (if t264 = true then ((impl_IntervalValid.f k a1_0 a1_1).bind fun t265 => (if t265 = true then (if a0_1.toList = ([] : List UInt8) then (some ((⟨#[]⟩ : ByteArray), (⟨#[]⟩ : ByteArray), false)) else (if a0_1.toList = a1_0.toList then (some (a0_0, a1_1, true)) else (some ((⟨#[]⟩ : ByteArray), (⟨#[]⟩ : ByteArray), false)))) else (some ((⟨#[]⟩ : ByteArray), (⟨#[]⟩ : ByteArray), false)))) else (some ((⟨#[]⟩ : ByteArray), (⟨#[]⟩ : ByteArray), false))) = some (r1, r2, r3) := H
  have A3 := Aside0.mk A30
  clear A30
  by_cases c4 : t264 = true
  · subst c4
    have H1 : ((impl_IntervalValid.f k a1_0 a1_1).bind fun t265 => (if t265 = true then (if a0_1.toList = ([] : List UInt8) then (some ((⟨#[]⟩ : ByteArray), (⟨#[]⟩ : ByteArray), false)) else (if a0_1.toList = a1_0.toList then (some (a0_0, a1_1, true)) else (some ((⟨#[]⟩ : ByteArray), (⟨#[]⟩ : ByteArray), false)))) else (some ((⟨#[]⟩ : ByteArray), (⟨#[]⟩ : ByteArray), false)))) = some (r1, r2, r3) := by rw [if_pos rfl] at H; exact H
    clear H
    have H := H1
    clear H1
    replace H := Option.bind_eq_some_iff.mp H
    obtain ⟨t265, A50, H⟩ := H
    replace H : (if t265 = true then (if a0_1.toList = ([] : List UInt8) then (some ((⟨#[]⟩ : ByteArray), (⟨#[]⟩ : ByteArray), false)) else (if a0_1.toList = a1_0.toList then (some (a0_0, a1_1, true)) else (some ((⟨#[]⟩ : ByteArray), (⟨#[]⟩ : ByteArray), false)))) else (some ((⟨#[]⟩ : ByteArray), (⟨#[]⟩ : ByteArray), false))) = some (r1, r2, r3) := H
    have A5 := Aside0.mk A50
    clear A50
    by_cases c6 : t265 = true
    · subst c6
      have H1 : (if a0_1.toList = ([] : List UInt8) then (some ((⟨#[]⟩ : ByteArray), (⟨#[]⟩ : ByteArray), false)) else (if a0_1.toList = a1_0.toList then (some (a0_0, a1_1, true)) else (some ((⟨#[]⟩ : ByteArray), (⟨#[]⟩ : ByteArray), false)))) = some (r1, r2, r3) := by rw [if_pos rfl] at H; exact H
      clear H
      have H := H1
      clear H1
      by_cases c7 : a0_1.toList = ([] : List UInt8)
      · rw [if_pos c7] at H
        have c7b0 : (a0_1.toList == ([] : List UInt8)) = true := beq_iff_eq.mpr c7
        have c7b1 : (a0_1.toList != ([] : List UInt8)) = false := bne_eq_false_iff_eq.mpr c7
        clear c7
        simp only [Option.some.injEq, Prod.mk.injEq] at H
        obtain ⟨rfl, rfl, rfl⟩ := H
        go_enter Try.func107, Try.ntmps107
        go_wp2_with (first | ((with_reducible refine gate_dst (N := 2) rfl ?_); refine bxe (N := 2) (cs := #[.string a0_0, .string a0_1]) (t := 83) ?_; intro gb261 hg w8 hbox hb; have BK261 := Aside0.mk (hbox); have GW261 := an2 HB hg; have GE261 := an2 HB hg; replace HB := an0 HB hb; clear hb hbox hg) | ((with_reducible refine gate_dst (N := 3) rfl ?_); refine bxe (N := 3) (cs := #[.string a1_0, .string a1_1]) (t := 83) ?_; intro gb262 hg w9 hbox hb; have BK262 := Aside0.mk (hbox); have GW262 := an2 HB hg; have GE262 := an2 HB hg; have NB261_262 := an3 BK261 hg; have NB262_261 := an4 BK261 hg; replace BK261 := an1 BK261 hb; replace HB := an0 HB hb; clear hb hbox hg) | ((with_reducible refine gate_dst (N := 4) rfl ?_); refine bxe (N := 4) (cs := #[.string (⟨#[]⟩ : ByteArray), .string (⟨#[]⟩ : ByteArray)]) (t := 83) ?_; intro gb263 hg w10 hbox hb; have BK263 := Aside0.mk (hbox); have GW263 := an2 HB hg; have GE263 := an2 HB hg; have NB261_263 := an3 BK261 hg; have NB263_261 := an4 BK261 hg; have NB262_263 := an3 BK262 hg; have NB263_262 := an4 BK262 hg; replace BK261 := an1 BK261 hb; replace BK262 := an1 BK262 hb; replace HB := an0 HB hb; clear hb hbox hg; have hnb11 := NB261_262.out; have hnc11 := NB262_261.out; have hnb12 := NB261_263.out; have hnc12 := NB263_261.out; obtain ⟨hcz13_0, hcz13_1, hfz13_0, hfz13_1⟩ := cl2 BK261) | ((with_reducible refine gate_callee (f := 106) rfl ?_); refine gsl (some 7) rfl Try.func106 #[.agg #[.string a0_0, .string a0_1]] rfl ?_; (with_reducible refine (impl_IntervalValid.calls k a0_0 a0_1 true _ A3.out).mono ?_); rintro e w14 ⟨rfl, hb⟩; refine ⟨_, rfl, ?_⟩; replace BK261 := an1 BK261 hb; replace BK262 := an1 BK262 hb; replace BK263 := an1 BK263 hb; replace HB := an0 HB hb; (try clear hb); (try clear hb2); (try clear hk); (try clear hi); have hnb15 := NB262_263.out; have hnc15 := NB263_262.out; obtain ⟨hcz16_0, hcz16_1, hfz16_0, hfz16_1⟩ := cl2 BK262) | (go_at_call 106; (with_reducible refine (impl_IntervalValid.calls k a1_0 a1_1 true _ A5.out).mono ?_); rintro e w17 ⟨rfl, hb⟩; replace BK261 := an1 BK261 hb; replace BK262 := an1 BK262 hb; replace BK263 := an1 BK263 hb; replace HB := an0 HB hb; (try clear hb); (try clear hb2); (try clear hk); (try clear hi); obtain ⟨hcz18_0, hcz18_1, hfz18_0, hfz18_1⟩ := cl2 BK261; obtain ⟨hcz19_0, hcz19_1, hfz19_0, hfz19_1⟩ := cl2 BK263))
        refine bodyPost_ret (results_ct rfl _ _ gb263 83 #[.string (⟨#[]⟩ : ByteArray), .string (⟨#[]⟩ : ByteArray)] (0, 0) _ rfl (by (with_reducible repeat (first | refine blk_drewN ?_ _ | refine blk_drew ?_ | refine blk_alloc ?_ _)); refine blk_put (cs := #[.string (⟨#[]⟩ : ByteArray), .string (⟨#[]⟩ : ByteArray)]) ?_ 1 _ rfl; (with_reducible repeat (first | refine blk_drewN ?_ _ | refine blk_drew ?_ | refine blk_alloc ?_ _)); refine blk_put (cs := #[.string (⟨#[]⟩ : ByteArray), .string (⟨#[]⟩ : ByteArray)]) ?_ 0 _ rfl; (with_reducible repeat (first | refine blk_drewN ?_ _ | refine blk_drew ?_ | refine blk_alloc ?_ _)); exact BK263.out) Try.underlying83 rfl (by kernel_rfl)) rfl ?_
        exact ⟨fe, bp HB.out⟩
      · rw [if_neg c7] at H
        have c7b0 : (a0_1.toList == ([] : List UInt8)) = false := beq_eq_false_iff_ne.mpr c7
        have c7b1 : (a0_1.toList != ([] : List UInt8)) = true := bne_iff_ne.mpr c7
        by_cases c20 : a0_1.toList = a1_0.toList
        · rw [if_pos c20] at H
          have c20b0 : (a0_1.toList == a1_0.toList) = true := beq_iff_eq.mpr c20
          have c20b1 : (a0_1.toList != a1_0.toList) = false := bne_eq_false_iff_eq.mpr c20
          clear c20
          simp only [Option.some.injEq, Prod.mk.injEq] at H
          obtain ⟨rfl, rfl, rfl⟩ := H
          go_enter Try.func107, Try.ntmps107
          go_wp2_with (first | ((with_reducible refine gate_dst (N := 2) rfl ?_); refine bxe (N := 2) (cs := #[.string a0_0, .string a0_1]) (t := 83) ?_; intro gb261 hg w21 hbox hb; have BK261 := Aside0.mk (hbox); have GW261 := an2 HB hg; have GE261 := an2 HB hg; replace HB := an0 HB hb; clear hb hbox hg) | ((with_reducible refine gate_dst (N := 3) rfl ?_); refine bxe (N := 3) (cs := #[.string a1_0, .string a1_1]) (t := 83) ?_; intro gb262 hg w22 hbox hb; have BK262 := Aside0.mk (hbox); have GW262 := an2 HB hg; have GE262 := an2 HB hg; have NB261_262 := an3 BK261 hg; have NB262_261 := an4 BK261 hg; replace BK261 := an1 BK261 hb; replace HB := an0 HB hb; clear hb hbox hg) | ((with_reducible refine gate_dst (N := 4) rfl ?_); refine bxe (N := 4) (cs := #[.string (⟨#[]⟩ : ByteArray), .string (⟨#[]⟩ : ByteArray)]) (t := 83) ?_; intro gb263 hg w23 hbox hb; have BK263 := Aside0.mk (hbox); have GW263 := an2 HB hg; have GE263 := an2 HB hg; have NB261_263 := an3 BK261 hg; have NB263_261 := an4 BK261 hg; have NB262_263 := an3 BK262 hg; have NB263_262 := an4 BK262 hg; replace BK261 := an1 BK261 hb; replace BK262 := an1 BK262 hb; replace HB := an0 HB hb; clear hb hbox hg; have hnb24 := NB261_262.out; have hnc24 := NB262_261.out; have hnb25 := NB261_263.out; have hnc25 := NB263_261.out; obtain ⟨hcz26_0, hcz26_1, hfz26_0, hfz26_1⟩ := cl2 BK261) | ((with_reducible refine gate_callee (f := 106) rfl ?_); refine gsl (some 7) rfl Try.func106 #[.agg #[.string a0_0, .string a0_1]] rfl ?_; (with_reducible refine (impl_IntervalValid.calls k a0_0 a0_1 true _ A3.out).mono ?_); rintro e w27 ⟨rfl, hb⟩; refine ⟨_, rfl, ?_⟩; replace BK261 := an1 BK261 hb; replace BK262 := an1 BK262 hb; replace BK263 := an1 BK263 hb; replace HB := an0 HB hb; (try clear hb); (try clear hb2); (try clear hk); (try clear hi); have hnb28 := NB262_263.out; have hnc28 := NB263_262.out; obtain ⟨hcz29_0, hcz29_1, hfz29_0, hfz29_1⟩ := cl2 BK262) | (go_at_call 106; (with_reducible refine (impl_IntervalValid.calls k a1_0 a1_1 true _ A5.out).mono ?_); rintro e w30 ⟨rfl, hb⟩; replace BK261 := an1 BK261 hb; replace BK262 := an1 BK262 hb; replace BK263 := an1 BK263 hb; replace HB := an0 HB hb; (try clear hb); (try clear hb2); (try clear hk); (try clear hi); obtain ⟨hcz31_0, hcz31_1, hfz31_0, hfz31_1⟩ := cl2 BK261; obtain ⟨hcz32_0, hcz32_1, hfz32_0, hfz32_1⟩ := cl2 BK262; obtain ⟨hcz33_0, hcz33_1, hfz33_0, hfz33_1⟩ := cl2 BK263))
          refine bodyPost_ret (results_ct rfl _ _ gb263 83 #[.string a0_0, .string a1_1] (0, 0) _ rfl (by (with_reducible repeat (first | refine blk_drewN ?_ _ | refine blk_drew ?_ | refine blk_alloc ?_ _)); refine blk_put (cs := #[.string a0_0, .string (⟨#[]⟩ : ByteArray)]) ?_ 1 _ rfl; (with_reducible repeat (first | refine blk_drewN ?_ _ | refine blk_drew ?_ | refine blk_alloc ?_ _)); refine blk_put (cs := #[.string (⟨#[]⟩ : ByteArray), .string (⟨#[]⟩ : ByteArray)]) ?_ 0 _ rfl; (with_reducible repeat (first | refine blk_drewN ?_ _ | refine blk_drew ?_ | refine blk_alloc ?_ _)); exact BK263.out) Try.underlying83 rfl (by kernel_rfl)) rfl ?_
          exact ⟨fe, bp HB.out⟩
        · rw [if_neg c20] at H
          have c20b0 : (a0_1.toList == a1_0.toList) = false := beq_eq_false_iff_ne.mpr c20
          have c20b1 : (a0_1.toList != a1_0.toList) = true := bne_iff_ne.mpr c20
          simp only [Option.some.injEq, Prod.mk.injEq] at H
          obtain ⟨rfl, rfl, rfl⟩ := H
          go_enter Try.func107, Try.ntmps107
          go_wp2_with (first | ((with_reducible refine gate_dst (N := 2) rfl ?_); refine bxe (N := 2) (cs := #[.string a0_0, .string a0_1]) (t := 83) ?_; intro gb261 hg w34 hbox hb; have BK261 := Aside0.mk (hbox); have GW261 := an2 HB hg; have GE261 := an2 HB hg; replace HB := an0 HB hb; clear hb hbox hg) | ((with_reducible refine gate_dst (N := 3) rfl ?_); refine bxe (N := 3) (cs := #[.string a1_0, .string a1_1]) (t := 83) ?_; intro gb262 hg w35 hbox hb; have BK262 := Aside0.mk (hbox); have GW262 := an2 HB hg; have GE262 := an2 HB hg; have NB261_262 := an3 BK261 hg; have NB262_261 := an4 BK261 hg; replace BK261 := an1 BK261 hb; replace HB := an0 HB hb; clear hb hbox hg) | ((with_reducible refine gate_dst (N := 4) rfl ?_); refine bxe (N := 4) (cs := #[.string (⟨#[]⟩ : ByteArray), .string (⟨#[]⟩ : ByteArray)]) (t := 83) ?_; intro gb263 hg w36 hbox hb; have BK263 := Aside0.mk (hbox); have GW263 := an2 HB hg; have GE263 := an2 HB hg; have NB261_263 := an3 BK261 hg; have NB263_261 := an4 BK261 hg; have NB262_263 := an3 BK262 hg; have NB263_262 := an4 BK262 hg; replace BK261 := an1 BK261 hb; replace BK262 := an1 BK262 hb; replace HB := an0 HB hb; clear hb hbox hg; have hnb37 := NB261_262.out; have hnc37 := NB262_261.out; have hnb38 := NB261_263.out; have hnc38 := NB263_261.out; obtain ⟨hcz39_0, hcz39_1, hfz39_0, hfz39_1⟩ := cl2 BK261) | ((with_reducible refine gate_callee (f := 106) rfl ?_); refine gsl (some 7) rfl Try.func106 #[.agg #[.string a0_0, .string a0_1]] rfl ?_; (with_reducible refine (impl_IntervalValid.calls k a0_0 a0_1 true _ A3.out).mono ?_); rintro e w40 ⟨rfl, hb⟩; refine ⟨_, rfl, ?_⟩; replace BK261 := an1 BK261 hb; replace BK262 := an1 BK262 hb; replace BK263 := an1 BK263 hb; replace HB := an0 HB hb; (try clear hb); (try clear hb2); (try clear hk); (try clear hi); have hnb41 := NB262_263.out; have hnc41 := NB263_262.out; obtain ⟨hcz42_0, hcz42_1, hfz42_0, hfz42_1⟩ := cl2 BK262) | (go_at_call 106; (with_reducible refine (impl_IntervalValid.calls k a1_0 a1_1 true _ A5.out).mono ?_); rintro e w43 ⟨rfl, hb⟩; replace BK261 := an1 BK261 hb; replace BK262 := an1 BK262 hb; replace BK263 := an1 BK263 hb; replace HB := an0 HB hb; (try clear hb); (try clear hb2); (try clear hk); (try clear hi); obtain ⟨hcz44_0, hcz44_1, hfz44_0, hfz44_1⟩ := cl2 BK261; obtain ⟨hcz45_0, hcz45_1, hfz45_0, hfz45_1⟩ := cl2 BK262; obtain ⟨hcz46_0, hcz46_1, hfz46_0, hfz46_1⟩ := cl2 BK263))
          refine bodyPost_ret (results_ct rfl _ _ gb263 83 #[.string (⟨#[]⟩ : ByteArray), .string (⟨#[]⟩ : ByteArray)] (0, 0) _ rfl (by (with_reducible repeat (first | refine blk_drewN ?_ _ | refine blk_drew ?_ | refine blk_alloc ?_ _)); refine blk_put (cs := #[.string (⟨#[]⟩ : ByteArray), .string (⟨#[]⟩ : ByteArray)]) ?_ 1 _ rfl; (with_reducible repeat (first | refine blk_drewN ?_ _ | refine blk_drew ?_ | refine blk_alloc ?_ _)); refine blk_put (cs := #[.string (⟨#[]⟩ : ByteArray), .string (⟨#[]⟩ : ByteArray)]) ?_ 0 _ rfl; (with_reducible repeat (first | refine blk_drewN ?_ _ | refine blk_drew ?_ | refine blk_alloc ?_ _)); exact BK263.out) Try.underlying83 rfl (by kernel_rfl)) rfl ?_
          exact ⟨fe, bp HB.out⟩
    · replace c6 := Bool.eq_false_iff.mpr c6
      subst c6
      have H1 : (some ((⟨#[]⟩ : ByteArray), (⟨#[]⟩ : ByteArray), false)) = some (r1, r2, r3) := by rw [if_neg (show ¬ (false = true) by decide)] at H; exact H
      clear H
      have H := H1
      clear H1
      simp only [Option.some.injEq, Prod.mk.injEq] at H
      obtain ⟨rfl, rfl, rfl⟩ := H
      go_enter Try.func107, Try.ntmps107
      go_wp2_with (first | ((with_reducible refine gate_dst (N := 2) rfl ?_); refine bxe (N := 2) (cs := #[.string a0_0, .string a0_1]) (t := 83) ?_; intro gb261 hg w47 hbox hb; have BK261 := Aside0.mk (hbox); have GW261 := an2 HB hg; have GE261 := an2 HB hg; replace HB := an0 HB hb; clear hb hbox hg) | ((with_reducible refine gate_dst (N := 3) rfl ?_); refine bxe (N := 3) (cs := #[.string a1_0, .string a1_1]) (t := 83) ?_; intro gb262 hg w48 hbox hb; have BK262 := Aside0.mk (hbox); have GW262 := an2 HB hg; have GE262 := an2 HB hg; have NB261_262 := an3 BK261 hg; have NB262_261 := an4 BK261 hg; replace BK261 := an1 BK261 hb; replace HB := an0 HB hb; clear hb hbox hg) | ((with_reducible refine gate_dst (N := 4) rfl ?_); refine bxe (N := 4) (cs := #[.string (⟨#[]⟩ : ByteArray), .string (⟨#[]⟩ : ByteArray)]) (t := 83) ?_; intro gb263 hg w49 hbox hb; have BK263 := Aside0.mk (hbox); have GW263 := an2 HB hg; have GE263 := an2 HB hg; have NB261_263 := an3 BK261 hg; have NB263_261 := an4 BK261 hg; have NB262_263 := an3 BK262 hg; have NB263_262 := an4 BK262 hg; replace BK261 := an1 BK261 hb; replace BK262 := an1 BK262 hb; replace HB := an0 HB hb; clear hb hbox hg; have hnb50 := NB261_262.out; have hnc50 := NB262_261.out; have hnb51 := NB261_263.out; have hnc51 := NB263_261.out; obtain ⟨hcz52_0, hcz52_1, hfz52_0, hfz52_1⟩ := cl2 BK261) | ((with_reducible refine gate_callee (f := 106) rfl ?_); refine gsl (some 7) rfl Try.func106 #[.agg #[.string a0_0, .string a0_1]] rfl ?_; (with_reducible refine (impl_IntervalValid.calls k a0_0 a0_1 true _ A3.out).mono ?_); rintro e w53 ⟨rfl, hb⟩; refine ⟨_, rfl, ?_⟩; replace BK261 := an1 BK261 hb; replace BK262 := an1 BK262 hb; replace BK263 := an1 BK263 hb; replace HB := an0 HB hb; (try clear hb); (try clear hb2); (try clear hk); (try clear hi); have hnb54 := NB262_263.out; have hnc54 := NB263_262.out; obtain ⟨hcz55_0, hcz55_1, hfz55_0, hfz55_1⟩ := cl2 BK262) | (go_at_call 106; (with_reducible refine (impl_IntervalValid.calls k a1_0 a1_1 false _ A5.out).mono ?_); rintro e w56 ⟨rfl, hb⟩; replace BK261 := an1 BK261 hb; replace BK262 := an1 BK262 hb; replace BK263 := an1 BK263 hb; replace HB := an0 HB hb; (try clear hb); (try clear hb2); (try clear hk); (try clear hi); obtain ⟨hcz57_0, hcz57_1, hfz57_0, hfz57_1⟩ := cl2 BK263))
      refine bodyPost_ret (results_ct rfl _ _ gb263 83 #[.string (⟨#[]⟩ : ByteArray), .string (⟨#[]⟩ : ByteArray)] (0, 0) _ rfl (by (with_reducible repeat (first | refine blk_drewN ?_ _ | refine blk_drew ?_ | refine blk_alloc ?_ _)); refine blk_put (cs := #[.string (⟨#[]⟩ : ByteArray), .string (⟨#[]⟩ : ByteArray)]) ?_ 1 _ rfl; (with_reducible repeat (first | refine blk_drewN ?_ _ | refine blk_drew ?_ | refine blk_alloc ?_ _)); refine blk_put (cs := #[.string (⟨#[]⟩ : ByteArray), .string (⟨#[]⟩ : ByteArray)]) ?_ 0 _ rfl; (with_reducible repeat (first | refine blk_drewN ?_ _ | refine blk_drew ?_ | refine blk_alloc ?_ _)); exact BK263.out) Try.underlying83 rfl (by kernel_rfl)) rfl ?_
      exact ⟨fe, bp HB.out⟩
  · replace c4 := Bool.eq_false_iff.mpr c4
    subst c4
    have H1 : (some ((⟨#[]⟩ : ByteArray), (⟨#[]⟩ : ByteArray), false)) = some (r1, r2, r3) := by rw [if_neg (show ¬ (false = true) by decide)] at H; exact H
    clear H
    have H := H1
    clear H1
    simp only [Option.some.injEq, Prod.mk.injEq] at H
    obtain ⟨rfl, rfl, rfl⟩ := H
    go_enter Try.func107, Try.ntmps107
    go_wp2_with (first | ((with_reducible refine gate_dst (N := 2) rfl ?_); refine bxe (N := 2) (cs := #[.string a0_0, .string a0_1]) (t := 83) ?_; intro gb261 hg w58 hbox hb; have BK261 := Aside0.mk (hbox); have GW261 := an2 HB hg; have GE261 := an2 HB hg; replace HB := an0 HB hb; clear hb hbox hg) | ((with_reducible refine gate_dst (N := 3) rfl ?_); refine bxe (N := 3) (cs := #[.string a1_0, .string a1_1]) (t := 83) ?_; intro gb262 hg w59 hbox hb; have BK262 := Aside0.mk (hbox); have GW262 := an2 HB hg; have GE262 := an2 HB hg; have NB261_262 := an3 BK261 hg; have NB262_261 := an4 BK261 hg; replace BK261 := an1 BK261 hb; replace HB := an0 HB hb; clear hb hbox hg) | ((with_reducible refine gate_dst (N := 4) rfl ?_); refine bxe (N := 4) (cs := #[.string (⟨#[]⟩ : ByteArray), .string (⟨#[]⟩ : ByteArray)]) (t := 83) ?_; intro gb263 hg w60 hbox hb; have BK263 := Aside0.mk (hbox); have GW263 := an2 HB hg; have GE263 := an2 HB hg; have NB261_263 := an3 BK261 hg; have NB263_261 := an4 BK261 hg; have NB262_263 := an3 BK262 hg; have NB263_262 := an4 BK262 hg; replace BK261 := an1 BK261 hb; replace BK262 := an1 BK262 hb; replace HB := an0 HB hb; clear hb hbox hg; have hnb61 := NB261_262.out; have hnc61 := NB262_261.out; have hnb62 := NB261_263.out; have hnc62 := NB263_261.out; obtain ⟨hcz63_0, hcz63_1, hfz63_0, hfz63_1⟩ := cl2 BK261) | ((with_reducible refine gate_callee (f := 106) rfl ?_); refine gsl (some 7) rfl Try.func106 #[.agg #[.string a0_0, .string a0_1]] rfl ?_; (with_reducible refine (impl_IntervalValid.calls k a0_0 a0_1 false _ A3.out).mono ?_); rintro e w64 ⟨rfl, hb⟩; refine ⟨_, rfl, ?_⟩; replace BK261 := an1 BK261 hb; replace BK262 := an1 BK262 hb; replace BK263 := an1 BK263 hb; replace HB := an0 HB hb; (try clear hb); (try clear hb2); (try clear hk); (try clear hi); have hnb65 := NB263_262.out; have hnc65 := NB262_263.out; obtain ⟨hcz66_0, hcz66_1, hfz66_0, hfz66_1⟩ := cl2 BK263))
    refine bodyPost_ret (results_ct rfl _ _ gb263 83 #[.string (⟨#[]⟩ : ByteArray), .string (⟨#[]⟩ : ByteArray)] (0, 0) _ rfl (by (with_reducible repeat (first | refine blk_drewN ?_ _ | refine blk_drew ?_ | refine blk_alloc ?_ _)); refine blk_put (cs := #[.string (⟨#[]⟩ : ByteArray), .string (⟨#[]⟩ : ByteArray)]) ?_ 1 _ rfl; (with_reducible repeat (first | refine blk_drewN ?_ _ | refine blk_drew ?_ | refine blk_alloc ?_ _)); refine blk_put (cs := #[.string (⟨#[]⟩ : ByteArray), .string (⟨#[]⟩ : ByteArray)]) ?_ 0 _ rfl; (with_reducible repeat (first | refine blk_drewN ?_ _ | refine blk_drew ?_ | refine blk_alloc ?_ _)); exact BK263.out) Try.underlying83 rfl (by kernel_rfl)) rfl ?_
    exact ⟨fe, bp HB.out⟩

end Go.Proofs.Ytfeeifefmenlmaa.PFnExactDiffParts
