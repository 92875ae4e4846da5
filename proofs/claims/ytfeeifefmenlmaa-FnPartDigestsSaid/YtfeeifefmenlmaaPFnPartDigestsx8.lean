-- Written by a program of this session, in the manner of the kit's print (wip/pp.py): functions and their contracts.
import Derived.Test.YtfeeifefmenlmaaPFnPartDigestsx0
import Derived.Test.YtfeeifefmenlmaaPFnPartDigestsx1
import Derived.Test.YtfeeifefmenlmaaPFnPartDigestsx7
namespace Go.Proofs.Ytfeeifefmenlmaa.PFnPartDigests
open Go.RowKit Go.Proofs.YtfeeifefmenlmaaW.PrintWords Go.Proofs.YtfeeifefmenlmaaW.PrintLast Go.Proofs.YtfeeifefmenlmaaW.PrintMore
attribute [local go_sem] binOp_leq_str binOp_gtr_str binOp_geq_str max2_int min2_int max_two min_two max_three min_three max_four min_four   -- for this text's walks alone
set_option linter.unusedVariables false
set_option linter.unusedSimpArgs false

/-! ### impl_IntervalValid: function 106 -/
def impl_IntervalValid.f (k : Nat) (a0_0 : ByteArray) (a0_1 : ByteArray) : Option (Bool) := if a0_0.toList = ([] : List UInt8) then (if a0_1.toList = ([] : List UInt8) then (some true) else ((impl_KeyValid.f k a0_1).bind fun t352 => (if t352 = true then ((impl_lowestKey.f a0_0 a0_1).bind fun t353 => (some (Op.bytesLess t353.toList a0_1.toList))) else (some false)))) else ((impl_KeyValid.f k a0_0).bind fun t354 => (if t354 = true then (if a0_1.toList = ([] : List UInt8) then (some true) else ((impl_KeyValid.f k a0_1).bind fun t355 => (if t355 = true then ((impl_lowestKey.f a0_0 a0_1).bind fun t356 => (some (Op.bytesLess t356.toList a0_1.toList))) else (some false)))) else (some false)))
theorem impl_IntervalValid.mono : ∀ a0 a1 k, LeO (impl_IntervalValid.f k a0 a1) (impl_IntervalValid.f (k + 1) a0 a1) := by
  intro a0 a1 k
  unfold impl_IntervalValid.f
  repeat' first
      | (with_reducible exact impl_KeyValid.mono _ _)
      | (with_reducible exact LeO.refl _)
      | (with_reducible exact LeO.none _)
      | (with_reducible refine LeO.ite ?_ ?_)
      | (with_reducible refine LeO.bind ?_ (fun _ => ?_))
      | exact impl_KeyValid.mono _ _
      | exact LeO.none _
      | refine LeO.ite ?_ ?_
      | refine LeO.bind ?_ (fun _ => ?_)
def impl_IntervalValid.T3 : Bool × List (List Nat × List Nat) := (true, [([], []), ([0], [0]), ([1], [1]), ([2], [2]), ([3], [3]), ([4, 3, 3], [3, 4]), ([3], [3]), ([6, 3], [3, 6]), ([5, 7, 3], [3, 5, 7]), ([3, 8], [3, 8]), ([9, 5, 0, 1, 2, 3, 4, 5, 6, 7, 8, 9], [9])])
def impl_IntervalValid.B3 : List Nat := [0, 1, 3, 7, 15, 31, 15, 79, 255, 511, 1023]
theorem impl_IntervalValid.tab3 : rtab .any (opsOf Try.f106 3) = impl_IntervalValid.T3 := by kernel_rfl
theorem impl_IntervalValid.bits3 : waitsOk impl_IntervalValid.T3.2 impl_IntervalValid.B3 = true := by kernel_rfl
set_option maxHeartbeats 8000000 in
set_option maxRecDepth 100000 in
theorem impl_IntervalValid.calls (k : Nat) (a0_0 : ByteArray) (a0_1 : ByteArray) (r : Bool) (w : World) (h : impl_IntervalValid.f k a0_0 a0_1 = some r) :
    Calls Try.prog 106 #[.agg #[.string a0_0, .string a0_1]] w fun e w' => e = .returned (.bool r) ∧ Below w.heap.size w w' := by
  have hu83 := Try.underlying83
  have HB := Aside0.mk (Below.refl w.heap.size w)
  have H : (if a0_0.toList = ([] : List UInt8) then (if a0_1.toList = ([] : List UInt8) then (some true) else ((impl_KeyValid.f k a0_1).bind fun t352 => (if t352 = true then ((impl_lowestKey.f a0_0 a0_1).bind fun t353 => (some (Op.bytesLess t353.toList a0_1.toList))) else (some false)))) else ((impl_KeyValid.f k a0_0).bind fun t354 => (if t354 = true then (if a0_1.toList = ([] : List UInt8) then (some true) else ((impl_KeyValid.f k a0_1).bind fun t355 => (if t355 = true then ((impl_lowestKey.f a0_0 a0_1).bind fun t356 => (some (Op.bytesLess t356.toList a0_1.toList))) else (some false)))) else (some false)))) = some r := h
  clear h
  by_cases c2 : a0_0.toList = ([] : List UInt8)
  · rw [if_pos c2] at H
    have c2b0 : (a0_0.toList == ([] : List UInt8)) = true := beq_iff_eq.mpr c2
    have c2b1 : (a0_0.toList != ([] : List UInt8)) = false := bne_eq_false_iff_eq.mpr c2
    clear c2
    by_cases c3 : a0_1.toList = ([] : List UInt8)
    · rw [if_pos c3] at H
      have c3b0 : (a0_1.toList == ([] : List UInt8)) = true := beq_iff_eq.mpr c3
      have c3b1 : (a0_1.toList != ([] : List UInt8)) = false := bne_eq_false_iff_eq.mpr c3
      clear c3
      obtain rfl := Option.some.inj H
      go_enter Try.func106, Try.ntmps106
      try go_wp2_with (first | ((with_reducible refine gate_dst (N := 1) rfl ?_); refine bxe (N := 1) (cs := #[.string a0_0, .string a0_1]) (t := 83) ?_; intro gb351 hg w4 hbox hb; have BK351 := Aside0.mk (hbox); have GW351 := an2 HB hg; have GE351 := an2 HB hg; replace HB := an0 HB hb; clear hb hbox hg; obtain ⟨hcz5_0, hcz5_1, hfz5_0, hfz5_1⟩ := cl2 BK351))
      have n0_ := Aside0.mk (blk_drew BK351.out)
      have n1_ := Aside0.mk (below_drew1 HB.out)
      clear BK351
      clear HB
      have BK351 := n0_
      have HB := n1_
      clear n0_ n1_
      refine start_ (n := 11) (S := fun w' => w'.cell? ⟨gb351, 0, none⟩ = some (.string a0_0) ∧ w'.cell? ⟨gb351, 1, none⟩ = some (.string a0_1)) (ds := []) #[false, false, false, false, false, false, false, false, false, false, false] (by kernel_rfl) rfl rfl ⟨(blk_cell BK351.out 0).trans rfl, (blk_cell BK351.out 1).trans rfl⟩ (fun hHeld => ?_); refine with_tabW impl_IntervalValid.tab3 impl_IntervalValid.bits3 (fun HT_ HW_ => ?_)
      generalize w4.drew = w6 at BK351 HB hHeld ⊢
      refine pur (i := 0) (N := some 23) #[true, false, false, false, false, false, false, false, false, false, false] rfl rfl HT_.out ?_
      refine take_ (i := 1) (N := some 24) (v := ?_) (a' := ?_) #[true, true, false, false, false, false, false, false, false, false, false] rfl rfl (take_ofW HT_.out HW_.out (by kernel_rfl)) (fun _ _ _ h => h) (Or.inl ⟨by rfl, ?_⟩) hHeld ?_ ?_
      rotate_left
      · rintro w' ⟨s0, s1⟩
        go_simp
        with_reducible rfl
      rotate_left; focus (simp only [Act.put, List.setIfInBounds_toArray, List.set_cons_zero, List.set_cons_succ, i64_w, i32_w]; rfl)
      refine pur (i := 2) (N := some 25) #[true, true, true, false, false, false, false, false, false, false, false] rfl rfl HT_.out ?_
      refine pur (i := 3) (N := some 26) #[true, true, true, true, false, false, false, false, false, false, false] rfl rfl HT_.out ?_
      refine puo (i := 4) (N := some 27) #[true, true, true, true, true, false, false, false, false, false, false] rfl rfl HT_.out ?_
      refine puo (i := 5) (N := some 28) #[true, true, true, true, true, true, false, false, false, false, false] rfl rfl HT_.out ?_
      refine puo (i := 6) (N := some 29) #[true, true, true, true, true, true, true, false, false, false, false] rfl rfl HT_.out ?_
      refine puo (i := 7) (N := some 30) #[true, true, true, true, true, true, true, true, false, false, false] rfl rfl HT_.out ?_
      refine puo (i := 8) (N := some 31) #[true, true, true, true, true, true, true, true, true, false, false] rfl rfl HT_.out ?_
      refine pur (i := 9) (N := some 32) #[true, true, true, true, true, true, true, true, true, true, false] rfl rfl HT_.out ?_
      refine pur (i := 10) (N := some 2) #[true, true, true, true, true, true, true, true, true, true, true] rfl rfl HT_.out ?_
      refine done_ (done_of HT_.out (by kernel_rfl)) ?_
      try go_wp2
      go_ret
      exact ⟨fe, bp HB.out⟩
    · rw [if_neg c3] at H
      have c3b0 : (a0_1.toList == ([] : List UInt8)) = false := beq_eq_false_iff_ne.mpr c3
      have c3b1 : (a0_1.toList != ([] : List UInt8)) = true := bne_iff_ne.mpr c3
      replace H := Option.bind_eq_some_iff.mp H
      obtain ⟨t352, A70, H⟩ := H
      replace H : (if t352 = true then ((impl_lowestKey.f a0_0 a0_1).bind fun t353 => (some (Op.bytesLess t353.toList a0_1.toList))) else (some false)) = some r := H
      have A7 := Aside0.mk A70
      clear A70
      by_cases c8 : t352 = true
      · subst c8
        have H1 : ((impl_lowestKey.f a0_0 a0_1).bind fun t353 => (some (Op.bytesLess t353.toList a0_1.toList))) = some r := by rw [if_pos rfl] at H; exact H
        clear H
        have H := H1
        clear H1
        replace H := Option.bind_eq_some_iff.mp H
        obtain ⟨t353, A90, H⟩ := H
        replace H : (some (Op.bytesLess t353.toList a0_1.toList)) = some r := H
        have A9 := Aside0.mk A90
        clear A90
        obtain rfl := Option.some.inj H
        go_enter Try.func106, Try.ntmps106
        try go_wp2_with (first | ((with_reducible refine gate_dst (N := 1) rfl ?_); refine bxe (N := 1) (cs := #[.string a0_0, .string a0_1]) (t := 83) ?_; intro gb351 hg w10 hbox hb; have BK351 := Aside0.mk (hbox); have GW351 := an2 HB hg; have GE351 := an2 HB hg; replace HB := an0 HB hb; clear hb hbox hg; obtain ⟨hcz11_0, hcz11_1, hfz11_0, hfz11_1⟩ := cl2 BK351) | (go_at_call 74; (with_reducible refine (impl_KeyValid.calls k a0_1 true _ A7.out).mono ?_); rintro e w' ⟨rfl, ⟨nd, rfl⟩⟩))
        (try (rw [drewN_self w10]; generalize hq_ : World.drewN w10 _ = w10; have n0_ : Aside0 (w10.heap[gb351]? = some (.cells #[.string a0_0, .string a0_1] 83 (0, 0))) := ⟨by rw [← hq_]; exact (kb BK351.out)⟩; have n1_ : Aside0 (Below w.heap.size w w10) := ⟨by rw [← hq_]; exact (bp HB.out)⟩; clear BK351 HB hq_; have BK351 := n0_; have HB := n1_; clear n0_ n1_))
        have n0_ := Aside0.mk (blk_drew BK351.out)
        have n1_ := Aside0.mk (below_drew1 HB.out)
        clear BK351
        clear HB
        have BK351 := n0_
        have HB := n1_
        clear n0_ n1_
        refine start_ (n := 11) (S := fun w' => w'.cell? ⟨gb351, 0, none⟩ = some (.string a0_0) ∧ w'.cell? ⟨gb351, 1, none⟩ = some (.string a0_1)) (ds := []) #[false, false, false, false, false, false, false, false, false, false, false] (by kernel_rfl) rfl rfl ⟨(blk_cell BK351.out 0).trans rfl, (blk_cell BK351.out 1).trans rfl⟩ (fun hHeld => ?_); refine with_tabW impl_IntervalValid.tab3 impl_IntervalValid.bits3 (fun HT_ HW_ => ?_)
        generalize w10.drew = w12 at BK351 HB hHeld ⊢
        refine pur (i := 0) (N := some 23) #[true, false, false, false, false, false, false, false, false, false, false] rfl rfl HT_.out ?_
        refine take_ (i := 1) (N := some 24) (v := ?_) (a' := ?_) #[true, true, false, false, false, false, false, false, false, false, false] rfl rfl (take_ofW HT_.out HW_.out (by kernel_rfl)) (fun _ _ _ h => h) (Or.inl ⟨by rfl, ?_⟩) hHeld ?_ ?_
        rotate_left
        · rintro w' ⟨s0, s1⟩
          go_simp
          with_reducible rfl
        rotate_left; focus (simp only [Act.put, List.setIfInBounds_toArray, List.set_cons_zero, List.set_cons_succ, i64_w, i32_w]; rfl)
        refine pur (i := 2) (N := some 25) #[true, true, true, false, false, false, false, false, false, false, false] rfl rfl HT_.out ?_
        refine pur (i := 3) (N := some 26) #[true, true, true, true, false, false, false, false, false, false, false] rfl rfl HT_.out ?_
        refine pur (i := 6) (N := some 29) #[true, true, true, true, false, false, true, false, false, false, false] rfl rfl HT_.out ?_
        refine take_ (i := 4) (N := some 27) (v := ?_) (a' := ?_) #[true, true, true, true, true, false, true, false, false, false, false] rfl rfl (take_ofW HT_.out HW_.out (by kernel_rfl)) (fun _ _ _ h => h) (Or.inl ⟨by rfl, ?_⟩) hHeld ?_ ?_
        rotate_left
        · rintro w' ⟨s0, s1⟩
          go_simp
          with_reducible rfl
        rotate_left; focus (simp only [Act.put, List.setIfInBounds_toArray, List.set_cons_zero, List.set_cons_succ, i64_w, i32_w]; rfl)
        refine take_ (i := 7) (N := some 30) (v := ?_) (a' := ?_) #[true, true, true, true, true, false, true, true, false, false, false] rfl rfl (take_ofW HT_.out HW_.out (by kernel_rfl)) (fun _ _ _ h => h) (Or.inl ⟨by rfl, ?_⟩) hHeld ?_ ?_
        rotate_left
        · rintro w' ⟨s0, s1⟩
          go_simp
          with_reducible rfl
        rotate_left; focus (simp only [Act.put, List.setIfInBounds_toArray, List.set_cons_zero, List.set_cons_succ, i64_w, i32_w]; rfl)
        refine one_ (i := 5) (N := some 28) #[true, true, true, true, true, true, true, true, false, false, false] rfl rfl (one_of HT_.out (by kernel_rfl)) (by decide) (fun K hK => ?_)
        refine goes_ Try.func143 (by kernel_rfl) rfl #[.agg #[.string a0_0, .string a0_1]] (by rfl) rfl rfl (by (try simp only [List.map_toArray, List.map_cons, List.map_nil]); first | done | rfl | (simp only [List.length_drop, List.length_take]; rfl)) ?_
        with_reducible refine (impl_lowestKey.calls a0_0 a0_1 t353 _ A9.out).mono ?_
        rintro e w13 ⟨rfl, hb⟩
        refine ⟨_, rfl, ?_⟩
        have n0_ := an1 BK351 hb
        have n1_ := an0 HB hb
        clear BK351
        clear HB
        have BK351 := n0_
        have HB := n1_
        clear n0_ n1_
        (try clear hb)
        (try clear hb2)
        (try clear hk)
        (try clear hi)
        refine hK.out _ _ ⟨(blk_cell BK351.out 0).trans rfl, (blk_cell BK351.out 1).trans rfl⟩ (fun hHeld => ?_)
        clear hK K
        refine norm_ (a' := ?_) ?_ ?_
        rotate_left
        · show Act.put _ (some 28) _ = _
          simp only [Act.put, List.setIfInBounds_toArray, List.set_cons_zero, List.set_cons_succ, i64_w, i32_w]
          rfl
        refine pur (i := 8) (N := some 31) #[true, true, true, true, true, true, true, true, true, false, false] rfl rfl HT_.out ?_
        refine pur (i := 9) (N := some 32) #[true, true, true, true, true, true, true, true, true, true, false] rfl rfl HT_.out ?_
        refine pur (i := 10) (N := some 2) #[true, true, true, true, true, true, true, true, true, true, true] rfl rfl HT_.out ?_
        refine done_ (done_of HT_.out (by kernel_rfl)) ?_
        try go_wp2
        go_ret
        exact ⟨fe, bp HB.out⟩
      · replace c8 := Bool.eq_false_iff.mpr c8
        subst c8
        have H1 : (some false) = some r := by rw [if_neg (show ¬ (false = true) by decide)] at H; exact H
        clear H
        have H := H1
        clear H1
        obtain rfl := Option.some.inj H
        go_enter Try.func106, Try.ntmps106
        go_wp2_with (first | ((with_reducible refine gate_dst (N := 1) rfl ?_); refine bxe (N := 1) (cs := #[.string a0_0, .string a0_1]) (t := 83) ?_; intro gb351 hg w14 hbox hb; have BK351 := Aside0.mk (hbox); have GW351 := an2 HB hg; have GE351 := an2 HB hg; replace HB := an0 HB hb; clear hb hbox hg; obtain ⟨hcz15_0, hcz15_1, hfz15_0, hfz15_1⟩ := cl2 BK351) | (go_at_call 74; (with_reducible refine (impl_KeyValid.calls k a0_1 false _ A7.out).mono ?_); rintro e w' ⟨rfl, ⟨nd, rfl⟩⟩))
        go_ret
        exact ⟨fe, bp HB.out⟩
  · rw [if_neg c2] at H
    have c2b0 : (a0_0.toList == ([] : List UInt8)) = false := beq_eq_false_iff_ne.mpr c2
    have c2b1 : (a0_0.toList != ([] : List UInt8)) = true := bne_iff_ne.mpr c2
    replace H := Option.bind_eq_some_iff.mp H
    obtain ⟨t354, A160, H⟩ := H
    replace H : (if t354 = true then (if a0_1.toList = ([] : List UInt8) then (some true) else ((impl_KeyValid.f k a0_1).bind fun t355 => (if t355 = true then ((impl_lowestKey.f a0_0 a0_1).bind fun t356 => (some (Op.bytesLess t356.toList a0_1.toList))) else (some false)))) else (some false)) = some r := H
    have A16 := Aside0.mk A160
    clear A160
    by_cases c17 : t354 = true
    · subst c17
      have H1 : (if a0_1.toList = ([] : List UInt8) then (some true) else ((impl_KeyValid.f k a0_1).bind fun t355 => (if t355 = true then ((impl_lowestKey.f a0_0 a0_1).bind fun t356 => (some (Op.bytesLess t356.toList a0_1.toList))) else (some false)))) = some r := by rw [if_pos rfl] at H; exact H
      clear H
      have H := H1
      clear H1
      by_cases c18 : a0_1.toList = ([] : List UInt8)
      · rw [if_pos c18] at H
        have c18b0 : (a0_1.toList == ([] : List UInt8)) = true := beq_iff_eq.mpr c18
        have c18b1 : (a0_1.toList != ([] : List UInt8)) = false := bne_eq_false_iff_eq.mpr c18
        clear c18
        obtain rfl := Option.some.inj H
        go_enter Try.func106, Try.ntmps106
        try go_wp2_with (first | ((with_reducible refine gate_dst (N := 1) rfl ?_); refine bxe (N := 1) (cs := #[.string a0_0, .string a0_1]) (t := 83) ?_; intro gb351 hg w19 hbox hb; have BK351 := Aside0.mk (hbox); have GW351 := an2 HB hg; have GE351 := an2 HB hg; replace HB := an0 HB hb; clear hb hbox hg; obtain ⟨hcz20_0, hcz20_1, hfz20_0, hfz20_1⟩ := cl2 BK351) | (go_at_call 74; (with_reducible refine (impl_KeyValid.calls k a0_0 true _ A16.out).mono ?_); rintro e w' ⟨rfl, ⟨nd, rfl⟩⟩))
        (try (rw [drewN_self w19]; generalize hq_ : World.drewN w19 _ = w19; have n0_ : Aside0 (w19.heap[gb351]? = some (.cells #[.string a0_0, .string a0_1] 83 (0, 0))) := ⟨by rw [← hq_]; exact (kb BK351.out)⟩; have n1_ : Aside0 (Below w.heap.size w w19) := ⟨by rw [← hq_]; exact (bp HB.out)⟩; clear BK351 HB hq_; have BK351 := n0_; have HB := n1_; clear n0_ n1_))
        have n0_ := Aside0.mk (blk_drew BK351.out)
        have n1_ := Aside0.mk (below_drew1 HB.out)
        clear BK351
        clear HB
        have BK351 := n0_
        have HB := n1_
        clear n0_ n1_
        refine start_ (n := 11) (S := fun w' => w'.cell? ⟨gb351, 0, none⟩ = some (.string a0_0) ∧ w'.cell? ⟨gb351, 1, none⟩ = some (.string a0_1)) (ds := []) #[false, false, false, false, false, false, false, false, false, false, false] (by kernel_rfl) rfl rfl ⟨(blk_cell BK351.out 0).trans rfl, (blk_cell BK351.out 1).trans rfl⟩ (fun hHeld => ?_); refine with_tabW impl_IntervalValid.tab3 impl_IntervalValid.bits3 (fun HT_ HW_ => ?_)
        generalize w19.drew = w21 at BK351 HB hHeld ⊢
        refine pur (i := 0) (N := some 23) #[true, false, false, false, false, false, false, false, false, false, false] rfl rfl HT_.out ?_
        refine take_ (i := 1) (N := some 24) (v := ?_) (a' := ?_) #[true, true, false, false, false, false, false, false, false, false, false] rfl rfl (take_ofW HT_.out HW_.out (by kernel_rfl)) (fun _ _ _ h => h) (Or.inl ⟨by rfl, ?_⟩) hHeld ?_ ?_
        rotate_left
        · rintro w' ⟨s0, s1⟩
          go_simp
          with_reducible rfl
        rotate_left; focus (simp only [Act.put, List.setIfInBounds_toArray, List.set_cons_zero, List.set_cons_succ, i64_w, i32_w]; rfl)
        refine pur (i := 2) (N := some 25) #[true, true, true, false, false, false, false, false, false, false, false] rfl rfl HT_.out ?_
        refine pur (i := 3) (N := some 26) #[true, true, true, true, false, false, false, false, false, false, false] rfl rfl HT_.out ?_
        refine puo (i := 4) (N := some 27) #[true, true, true, true, true, false, false, false, false, false, false] rfl rfl HT_.out ?_
        refine puo (i := 5) (N := some 28) #[true, true, true, true, true, true, false, false, false, false, false] rfl rfl HT_.out ?_
        refine puo (i := 6) (N := some 29) #[true, true, true, true, true, true, true, false, false, false, false] rfl rfl HT_.out ?_
        refine puo (i := 7) (N := some 30) #[true, true, true, true, true, true, true, true, false, false, false] rfl rfl HT_.out ?_
        refine puo (i := 8) (N := some 31) #[true, true, true, true, true, true, true, true, true, false, false] rfl rfl HT_.out ?_
        refine pur (i := 9) (N := some 32) #[true, true, true, true, true, true, true, true, true, true, false] rfl rfl HT_.out ?_
        refine pur (i := 10) (N := some 2) #[true, true, true, true, true, true, true, true, true, true, true] rfl rfl HT_.out ?_
        refine done_ (done_of HT_.out (by kernel_rfl)) ?_
        try go_wp2
        go_ret
        exact ⟨fe, bp HB.out⟩
      · rw [if_neg c18] at H
        have c18b0 : (a0_1.toList == ([] : List UInt8)) = false := beq_eq_false_iff_ne.mpr c18
        have c18b1 : (a0_1.toList != ([] : List UInt8)) = true := bne_iff_ne.mpr c18
        replace H := Option.bind_eq_some_iff.mp H
        obtain ⟨t355, A220, H⟩ := H
        replace H : (if t355 = true then ((impl_lowestKey.f a0_0 a0_1).bind fun t356 => (some (Op.bytesLess t356.toList a0_1.toList))) else (some false)) = some r := H
        have A22 := Aside0.mk A220
        clear A220
        by_cases c23 : t355 = true
        · subst c23
          have H1 : ((impl_lowestKey.f a0_0 a0_1).bind fun t356 => (some (Op.bytesLess t356.toList a0_1.toList))) = some r := by rw [if_pos rfl] at H; exact H
          clear H
          have H := H1
          clear H1
          replace H := Option.bind_eq_some_iff.mp H
          obtain ⟨t356, A240, H⟩ := H
          replace H : (some (Op.bytesLess t356.toList a0_1.toList)) = some r := H
          have A24 := Aside0.mk A240
          clear A240
          obtain rfl := Option.some.inj H
          go_enter Try.func106, Try.ntmps106
          try go_wp2_with (first | ((with_reducible refine gate_dst (N := 1) rfl ?_); refine bxe (N := 1) (cs := #[.string a0_0, .string a0_1]) (t := 83) ?_; intro gb351 hg w25 hbox hb; have BK351 := Aside0.mk (hbox); have GW351 := an2 HB hg; have GE351 := an2 HB hg; replace HB := an0 HB hb; clear hb hbox hg; obtain ⟨hcz26_0, hcz26_1, hfz26_0, hfz26_1⟩ := cl2 BK351) | (go_at_call 74; (with_reducible refine (impl_KeyValid.calls k a0_0 true _ A16.out).mono ?_); rintro e w' ⟨rfl, ⟨nd, rfl⟩⟩) | (go_at_call 74; (with_reducible refine (impl_KeyValid.calls k a0_1 true _ A22.out).mono ?_); rintro e w' ⟨rfl, ⟨nd, rfl⟩⟩))
          (try (rw [drewN_self w25]; generalize hq_ : World.drewN w25 _ = w25; have n0_ : Aside0 (w25.heap[gb351]? = some (.cells #[.string a0_0, .string a0_1] 83 (0, 0))) := ⟨by rw [← hq_]; exact (kb BK351.out)⟩; have n1_ : Aside0 (Below w.heap.size w w25) := ⟨by rw [← hq_]; exact (bp HB.out)⟩; clear BK351 HB hq_; have BK351 := n0_; have HB := n1_; clear n0_ n1_))
          have n0_ := Aside0.mk (blk_drew BK351.out)
          have n1_ := Aside0.mk (below_drew1 HB.out)
          clear BK351
          clear HB
          have BK351 := n0_
          have HB := n1_
          clear n0_ n1_
          refine start_ (n := 11) (S := fun w' => w'.cell? ⟨gb351, 0, none⟩ = some (.string a0_0) ∧ w'.cell? ⟨gb351, 1, none⟩ = some (.string a0_1)) (ds := []) #[false, false, false, false, false, false, false, false, false, false, false] (by kernel_rfl) rfl rfl ⟨(blk_cell BK351.out 0).trans rfl, (blk_cell BK351.out 1).trans rfl⟩ (fun hHeld => ?_); refine with_tabW impl_IntervalValid.tab3 impl_IntervalValid.bits3 (fun HT_ HW_ => ?_)
          generalize w25.drew = w27 at BK351 HB hHeld ⊢
          refine pur (i := 0) (N := some 23) #[true, false, false, false, false, false, false, false, false, false, false] rfl rfl HT_.out ?_
          refine take_ (i := 1) (N := some 24) (v := ?_) (a' := ?_) #[true, true, false, false, false, false, false, false, false, false, false] rfl rfl (take_ofW HT_.out HW_.out (by kernel_rfl)) (fun _ _ _ h => h) (Or.inl ⟨by rfl, ?_⟩) hHeld ?_ ?_
          rotate_left
          · rintro w' ⟨s0, s1⟩
            go_simp
            with_reducible rfl
          rotate_left; focus (simp only [Act.put, List.setIfInBounds_toArray, List.set_cons_zero, List.set_cons_succ, i64_w, i32_w]; rfl)
          refine pur (i := 2) (N := some 25) #[true, true, true, false, false, false, false, false, false, false, false] rfl rfl HT_.out ?_
          refine pur (i := 3) (N := some 26) #[true, true, true, true, false, false, false, false, false, false, false] rfl rfl HT_.out ?_
          refine pur (i := 6) (N := some 29) #[true, true, true, true, false, false, true, false, false, false, false] rfl rfl HT_.out ?_
          refine take_ (i := 4) (N := some 27) (v := ?_) (a' := ?_) #[true, true, true, true, true, false, true, false, false, false, false] rfl rfl (take_ofW HT_.out HW_.out (by kernel_rfl)) (fun _ _ _ h => h) (Or.inl ⟨by rfl, ?_⟩) hHeld ?_ ?_
          rotate_left
          · rintro w' ⟨s0, s1⟩
            go_simp
            with_reducible rfl
          rotate_left; focus (simp only [Act.put, List.setIfInBounds_toArray, List.set_cons_zero, List.set_cons_succ, i64_w, i32_w]; rfl)
          refine take_ (i := 7) (N := some 30) (v := ?_) (a' := ?_) #[true, true, true, true, true, false, true, true, false, false, false] rfl rfl (take_ofW HT_.out HW_.out (by kernel_rfl)) (fun _ _ _ h => h) (Or.inl ⟨by rfl, ?_⟩) hHeld ?_ ?_
          rotate_left
          · rintro w' ⟨s0, s1⟩
            go_simp
            with_reducible rfl
          rotate_left; focus (simp only [Act.put, List.setIfInBounds_toArray, List.set_cons_zero, List.set_cons_succ, i64_w, i32_w]; rfl)
          refine one_ (i := 5) (N := some 28) #[true, true, true, true, true, true, true, true, false, false, false] rfl rfl (one_of HT_.out (by kernel_rfl)) (by decide) (fun K hK => ?_)
          refine goes_ Try.func143 (by kernel_rfl) rfl #[.agg #[.string a0_0, .string a0_1]] (by rfl) rfl rfl (by (try simp only [List.map_toArray, List.map_cons, List.map_nil]); first | done | rfl | (simp only [List.length_drop, List.length_take]; rfl)) ?_
          with_reducible refine (impl_lowestKey.calls a0_0 a0_1 t356 _ A24.out).mono ?_
          rintro e w28 ⟨rfl, hb⟩
          refine ⟨_, rfl, ?_⟩
          have n0_ := an1 BK351 hb
          have n1_ := an0 HB hb
          clear BK351
          clear HB
          have BK351 := n0_
          have HB := n1_
          clear n0_ n1_
          (try clear hb)
          (try clear hb2)
          (try clear hk)
          (try clear hi)
          refine hK.out _ _ ⟨(blk_cell BK351.out 0).trans rfl, (blk_cell BK351.out 1).trans rfl⟩ (fun hHeld => ?_)
          clear hK K
          refine norm_ (a' := ?_) ?_ ?_
          rotate_left
          · show Act.put _ (some 28) _ = _
            simp only [Act.put, List.setIfInBounds_toArray, List.set_cons_zero, List.set_cons_succ, i64_w, i32_w]
            rfl
          refine pur (i := 8) (N := some 31) #[true, true, true, true, true, true, true, true, true, false, false] rfl rfl HT_.out ?_
          refine pur (i := 9) (N := some 32) #[true, true, true, true, true, true, true, true, true, true, false] rfl rfl HT_.out ?_
          refine pur (i := 10) (N := some 2) #[true, true, true, true, true, true, true, true, true, true, true] rfl rfl HT_.out ?_
          refine done_ (done_of HT_.out (by kernel_rfl)) ?_
          try go_wp2
          go_ret
          exact ⟨fe, bp HB.out⟩
        · replace c23 := Bool.eq_false_iff.mpr c23
          subst c23
          have H1 : (some false) = some r := by rw [if_neg (show ¬ (false = true) by decide)] at H; exact H
          clear H
          have H := H1
          clear H1
          obtain rfl := Option.some.inj H
          go_enter Try.func106, Try.ntmps106
          go_wp2_with (first | ((with_reducible refine gate_dst (N := 1) rfl ?_); refine bxe (N := 1) (cs := #[.string a0_0, .string a0_1]) (t := 83) ?_; intro gb351 hg w29 hbox hb; have BK351 := Aside0.mk (hbox); have GW351 := an2 HB hg; have GE351 := an2 HB hg; replace HB := an0 HB hb; clear hb hbox hg; obtain ⟨hcz30_0, hcz30_1, hfz30_0, hfz30_1⟩ := cl2 BK351) | (go_at_call 74; (with_reducible refine (impl_KeyValid.calls k a0_0 true _ A16.out).mono ?_); rintro e w' ⟨rfl, ⟨nd, rfl⟩⟩) | (go_at_call 74; (with_reducible refine (impl_KeyValid.calls k a0_1 false _ A22.out).mono ?_); rintro e w' ⟨rfl, ⟨nd, rfl⟩⟩))
          go_ret
          exact ⟨fe, bp HB.out⟩
    · replace c17 := Bool.eq_false_iff.mpr c17
      subst c17
      have H1 : (some false) = some r := by rw [if_neg (show ¬ (false = true) by decide)] at H; exact H
      clear H
      have H := H1
      clear H1
      obtain rfl := Option.some.inj H
      go_enter Try.func106, Try.ntmps106
      go_wp2_with (first | ((with_reducible refine gate_dst (N := 1) rfl ?_); refine bxe (N := 1) (cs := #[.string a0_0, .string a0_1]) (t := 83) ?_; intro gb351 hg w31 hbox hb; have BK351 := Aside0.mk (hbox); have GW351 := an2 HB hg; have GE351 := an2 HB hg; replace HB := an0 HB hb; clear hb hbox hg; obtain ⟨hcz32_0, hcz32_1, hfz32_0, hfz32_1⟩ := cl2 BK351) | (go_at_call 74; (with_reducible refine (impl_KeyValid.calls k a0_0 false _ A16.out).mono ?_); rintro e w' ⟨rfl, ⟨nd, rfl⟩⟩))
      go_ret
      exact ⟨fe, bp HB.out⟩

/-! ### impl_IntervalJoin: function 107 -/
def impl_IntervalJoin.f (k : Nat) (a0_0 : ByteArray) (a0_1 : ByteArray) (a1_0 : ByteArray) (a1_1 : ByteArray) : Option (ByteArray × ByteArray × Bool) := (impl_IntervalValid.f k a0_0 a0_1).bind fun t360 => (if t360 = true then ((impl_IntervalValid.f k a1_0 a1_1).bind fun t361 => (if t361 = true then (if a0_1.toList = ([] : List UInt8) then (some ((⟨#[]⟩ : ByteArray), (⟨#[]⟩ : ByteArray), false)) else (if a0_1.toList = a1_0.toList then (some (a0_0, a1_1, true)) else (some ((⟨#[]⟩ : ByteArray), (⟨#[]⟩ : ByteArray), false)))) else (some ((⟨#[]⟩ : ByteArray), (⟨#[]⟩ : ByteArray), false)))) else (some ((⟨#[]⟩ : ByteArray), (⟨#[]⟩ : ByteArray), false)))
theorem impl_IntervalJoin.mono : ∀ a0 a1 a2 a3 k, LeO (impl_IntervalJoin.f k a0 a1 a2 a3) (impl_IntervalJoin.f (k + 1) a0 a1 a2 a3) := by
  intro a0 a1 a2 a3 k
  unfold impl_IntervalJoin.f
  repeat' first
      | (with_reducible exact impl_IntervalValid.mono _ _ _)
      | (with_reducible exact LeO.refl _)
      | (with_reducible exact LeO.none _)
      | (with_reducible refine LeO.ite ?_ ?_)
      | (with_reducible refine LeO.bind ?_ (fun _ => ?_))
      | exact impl_IntervalValid.mono _ _ _
      | exact LeO.none _
      | refine LeO.ite ?_ ?_
      | refine LeO.bind ?_ (fun _ => ?_)
set_option maxHeartbeats 8000000 in
set_option maxRecDepth 100000 in
theorem impl_IntervalJoin.calls (k : Nat) (a0_0 : ByteArray) (a0_1 : ByteArray) (a1_0 : ByteArray) (a1_1 : ByteArray) (r1 : ByteArray) (r2 : ByteArray) (r3 : Bool) (w : World) (h : impl_IntervalJoin.f k a0_0 a0_1 a1_0 a1_1 = some (r1, r2, r3)) :
    Calls Try.prog 107 #[.agg #[.string a0_0, .string a0_1], .agg #[.string a1_0, .string a1_1]] w fun e w' => e = .returned (.tuple #[.agg #[.string r1, .string r2], .bool r3]) ∧ Below w.heap.size w w' := by
  have hu83 := Try.underlying83
  have HB := Aside0.mk (Below.refl w.heap.size w)
  have H : ((impl_IntervalValid.f k a0_0 a0_1).bind fun t360 => (if t360 = true then ((impl_IntervalValid.f k a1_0 a1_1).bind fun t361 => (if t361 = true then (if a0_1.toList = ([] : List UInt8) then (some ((⟨#[]⟩ : ByteArray), (⟨#[]⟩ : ByteArray), false)) else (if a0_1.toList = a1_0.toList then (some (a0_0, a1_1, true)) else (some ((⟨#[]⟩ : ByteArray), (⟨#[]⟩ : ByteArray), false)))) else (some ((⟨#[]⟩ : ByteArray), (⟨#[]⟩ : ByteArray), false)))) else (some ((⟨#[]⟩ : ByteArray), (⟨#[]⟩ : ByteArray), false)))) = some (r1, r2, r3) := h
  clear h
  replace H := Option.bind_eq_some_iff.mp H
  obtain ⟨t360, A30, H⟩ := H
  replace H : (if t360 = true then ((impl_IntervalValid.f k a1_0 a1_1).bind fun t361 => (if t361 = true then (if a0_1.toList = ([] : List UInt8) then (some ((⟨#[]⟩ : ByteArray), (⟨#[]⟩ : ByteArray), false)) else (if a0_1.toList = a1_0.toList then (some (a0_0, a1_1, true)) else (some ((⟨#[]⟩ : ByteArray), (⟨#[]⟩ : ByteArray), false)))) else (some ((⟨#[]⟩ : ByteArray), (⟨#[]⟩ : ByteArray), false)))) else (some ((⟨#[]⟩ : ByteArray), (⟨#[]⟩ : ByteArray), false))) = some (r1, r2, r3) := H
  have A3 := Aside0.mk A30
  clear A30
  by_cases c4 : t360 = true
  · subst c4
    have H1 : ((impl_IntervalValid.f k a1_0 a1_1).bind fun t361 => (if t361 = true then (if a0_1.toList = ([] : List UInt8) then (some ((⟨#[]⟩ : ByteArray), (⟨#[]⟩ : ByteArray), false)) else (if a0_1.toList = a1_0.toList then (some (a0_0, a1_1, true)) else (some ((⟨#[]⟩ : ByteArray), (⟨#[]⟩ : ByteArray), false)))) else (some ((⟨#[]⟩ : ByteArray), (⟨#[]⟩ : ByteArray), false)))) = some (r1, r2, r3) := by rw [if_pos rfl] at H; exact H
    clear H
    have H := H1
    clear H1
    replace H := Option.bind_eq_some_iff.mp H
    obtain ⟨t361, A50, H⟩ := H
    replace H : (if t361 = true then (if a0_1.toList = ([] : List UInt8) then (some ((⟨#[]⟩ : ByteArray), (⟨#[]⟩ : ByteArray), false)) else (if a0_1.toList = a1_0.toList then (some (a0_0, a1_1, true)) else (some ((⟨#[]⟩ : ByteArray), (⟨#[]⟩ : ByteArray), false)))) else (some ((⟨#[]⟩ : ByteArray), (⟨#[]⟩ : ByteArray), false))) = some (r1, r2, r3) := H
    have A5 := Aside0.mk A50
    clear A50
    by_cases c6 : t361 = true
    · subst c6
      have H1 : (if a0_1.toList = ([] : List UInt8) then (some ((⟨#[]⟩ : ByteArray), (⟨#[]⟩ : ByteArray), false)) else (if a0_1.toList = a1_0.toList then (some (a0_0, a1_1, true)) else (some ((⟨#[]⟩ : ByteArray), (⟨#[]⟩ : ByteArray), false)))) = some (r1, r2, r3) := by rw [if_pos rfl] at H; exact H
      clear H
      have H := H1
      clear H1
      by_cases c7 : a0_1.toList = ([] : List UInt8)
      · rw [if_pos c7] at H
        have c7b0 : (a0_1.toList == ([] : List UInt8)) = true := beq_iff_eq.mpr c7
        have c7b1 : (a0_1.toList != ([] : List UInt8)) = false := bne_eq_false_iff_eq.mpr c7
        clear c7
        simp only [Option.some.injEq, Prod.mk.injEq] at H
        obtain ⟨rfl, rfl, rfl⟩ := H
        go_enter Try.func107, Try.ntmps107
        go_wp2_with (first | ((with_reducible refine gate_dst (N := 2) rfl ?_); refine bxe (N := 2) (cs := #[.string a0_0, .string a0_1]) (t := 83) ?_; intro gb357 hg w8 hbox hb; have BK357 := Aside0.mk (hbox); have GW357 := an2 HB hg; have GE357 := an2 HB hg; replace HB := an0 HB hb; clear hb hbox hg) | ((with_reducible refine gate_dst (N := 3) rfl ?_); refine bxe (N := 3) (cs := #[.string a1_0, .string a1_1]) (t := 83) ?_; intro gb358 hg w9 hbox hb; have BK358 := Aside0.mk (hbox); have GW358 := an2 HB hg; have GE358 := an2 HB hg; have NB357_358 := an3 BK357 hg; have NB358_357 := an4 BK357 hg; replace BK357 := an1 BK357 hb; replace HB := an0 HB hb; clear hb hbox hg) | ((with_reducible refine gate_dst (N := 4) rfl ?_); refine bxe (N := 4) (cs := #[.string (⟨#[]⟩ : ByteArray), .string (⟨#[]⟩ : ByteArray)]) (t := 83) ?_; intro gb359 hg w10 hbox hb; have BK359 := Aside0.mk (hbox); have GW359 := an2 HB hg; have GE359 := an2 HB hg; have NB357_359 := an3 BK357 hg; have NB359_357 := an4 BK357 hg; have NB358_359 := an3 BK358 hg; have NB359_358 := an4 BK358 hg; replace BK357 := an1 BK357 hb; replace BK358 := an1 BK358 hb; replace HB := an0 HB hb; clear hb hbox hg; have hnb11 := NB357_358.out; have hnc11 := NB358_357.out; have hnb12 := NB357_359.out; have hnc12 := NB359_357.out; obtain ⟨hcz13_0, hcz13_1, hfz13_0, hfz13_1⟩ := cl2 BK357) | ((with_reducible refine gate_callee (f := 106) rfl ?_); refine gsl (some 7) rfl Try.func106 #[.agg #[.string a0_0, .string a0_1]] rfl ?_; (with_reducible refine (impl_IntervalValid.calls k a0_0 a0_1 true _ A3.out).mono ?_); rintro e w14 ⟨rfl, hb⟩; refine ⟨_, rfl, ?_⟩; replace BK357 := an1 BK357 hb; replace BK358 := an1 BK358 hb; replace BK359 := an1 BK359 hb; replace HB := an0 HB hb; (try clear hb); (try clear hb2); (try clear hk); (try clear hi); have hnb15 := NB358_359.out; have hnc15 := NB359_358.out; obtain ⟨hcz16_0, hcz16_1, hfz16_0, hfz16_1⟩ := cl2 BK358) | (go_at_call 106; (with_reducible refine (impl_IntervalValid.calls k a1_0 a1_1 true _ A5.out).mono ?_); rintro e w17 ⟨rfl, hb⟩; replace BK357 := an1 BK357 hb; replace BK358 := an1 BK358 hb; replace BK359 := an1 BK359 hb; replace HB := an0 HB hb; (try clear hb); (try clear hb2); (try clear hk); (try clear hi); obtain ⟨hcz18_0, hcz18_1, hfz18_0, hfz18_1⟩ := cl2 BK357; obtain ⟨hcz19_0, hcz19_1, hfz19_0, hfz19_1⟩ := cl2 BK359))
        refine bodyPost_ret (results_ct rfl _ _ gb359 83 #[.string (⟨#[]⟩ : ByteArray), .string (⟨#[]⟩ : ByteArray)] (0, 0) _ rfl (by (with_reducible repeat (first | refine blk_drewN ?_ _ | refine blk_drew ?_ | refine blk_alloc ?_ _)); refine blk_put (cs := #[.string (⟨#[]⟩ : ByteArray), .string (⟨#[]⟩ : ByteArray)]) ?_ 1 _ rfl; (with_reducible repeat (first | refine blk_drewN ?_ _ | refine blk_drew ?_ | refine blk_alloc ?_ _)); refine blk_put (cs := #[.string (⟨#[]⟩ : ByteArray), .string (⟨#[]⟩ : ByteArray)]) ?_ 0 _ rfl; (with_reducible repeat (first | refine blk_drewN ?_ _ | refine blk_drew ?_ | refine blk_alloc ?_ _)); exact BK359.out) Try.underlying83 rfl (by kernel_rfl)) rfl ?_
        exact ⟨fe, bp HB.out⟩
      · rw [if_neg c7] at H
        have c7b0 : (a0_1.toList == ([] : List UInt8)) = false := beq_eq_false_iff_ne.mpr c7
        have c7b1 : (a0_1.toList != ([] : List UInt8)) = true := bne_iff_ne.mpr c7
        by_cases c20 : a0_1.toList = a1_0.toList
        · rw [if_pos c20] at H
          have c20b0 : (a0_1.toList == a1_0.toList) = true := beq_iff_eq.mpr c20
          have c20b1 : (a0_1.toList != a1_0.toList) = false := bne_eq_false_iff_eq.mpr c20
          clear c20
          simp only [Option.some.injEq, Prod.mk.injEq] at H
          obtain ⟨rfl, rfl, rfl⟩ := H
          go_enter Try.func107, Try.ntmps107
          go_wp2_with (first | ((with_reducible refine gate_dst (N := 2) rfl ?_); refine bxe (N := 2) (cs := #[.string a0_0, .string a0_1]) (t := 83) ?_; intro gb357 hg w21 hbox hb; have BK357 := Aside0.mk (hbox); have GW357 := an2 HB hg; have GE357 := an2 HB hg; replace HB := an0 HB hb; clear hb hbox hg) | ((with_reducible refine gate_dst (N := 3) rfl ?_); refine bxe (N := 3) (cs := #[.string a1_0, .string a1_1]) (t := 83) ?_; intro gb358 hg w22 hbox hb; have BK358 := Aside0.mk (hbox); have GW358 := an2 HB hg; have GE358 := an2 HB hg; have NB357_358 := an3 BK357 hg; have NB358_357 := an4 BK357 hg; replace BK357 := an1 BK357 hb; replace HB := an0 HB hb; clear hb hbox hg) | ((with_reducible refine gate_dst (N := 4) rfl ?_); refine bxe (N := 4) (cs := #[.string (⟨#[]⟩ : ByteArray), .string (⟨#[]⟩ : ByteArray)]) (t := 83) ?_; intro gb359 hg w23 hbox hb; have BK359 := Aside0.mk (hbox); have GW359 := an2 HB hg; have GE359 := an2 HB hg; have NB357_359 := an3 BK357 hg; have NB359_357 := an4 BK357 hg; have NB358_359 := an3 BK358 hg; have NB359_358 := an4 BK358 hg; replace BK357 := an1 BK357 hb; replace BK358 := an1 BK358 hb; replace HB := an0 HB hb; clear hb hbox hg; have hnb24 := NB357_358.out; have hnc24 := NB358_357.out; have hnb25 := NB357_359.out; have hnc25 := NB359_357.out; obtain ⟨hcz26_0, hcz26_1, hfz26_0, hfz26_1⟩ := cl2 BK357) | ((with_reducible refine gate_callee (f := 106) rfl ?_); refine gsl (some 7) rfl Try.func106 #[.agg #[.string a0_0, .string a0_1]] rfl ?_; (with_reducible refine (impl_IntervalValid.calls k a0_0 a0_1 true _ A3.out).mono ?_); rintro e w27 ⟨rfl, hb⟩; refine ⟨_, rfl, ?_⟩; replace BK357 := an1 BK357 hb; replace BK358 := an1 BK358 hb; replace BK359 := an1 BK359 hb; replace HB := an0 HB hb; (try clear hb); (try clear hb2); (try clear hk); (try clear hi); have hnb28 := NB358_359.out; have hnc28 := NB359_358.out; obtain ⟨hcz29_0, hcz29_1, hfz29_0, hfz29_1⟩ := cl2 BK358) | (go_at_call 106; (with_reducible refine (impl_IntervalValid.calls k a1_0 a1_1 true _ A5.out).mono ?_); rintro e w30 ⟨rfl, hb⟩; replace BK357 := an1 BK357 hb; replace BK358 := an1 BK358 hb; replace BK359 := an1 BK359 hb; replace HB := an0 HB hb; (try clear hb); (try clear hb2); (try clear hk); (try clear hi); obtain ⟨hcz31_0, hcz31_1, hfz31_0, hfz31_1⟩ := cl2 BK357; obtain ⟨hcz32_0, hcz32_1, hfz32_0, hfz32_1⟩ := cl2 BK358; obtain ⟨hcz33_0, hcz33_1, hfz33_0, hfz33_1⟩ := cl2 BK359))
          refine bodyPost_ret (results_ct rfl _ _ gb359 83 #[.string a0_0, .string a1_1] (0, 0) _ rfl (by (with_reducible repeat (first | refine blk_drewN ?_ _ | refine blk_drew ?_ | refine blk_alloc ?_ _)); refine blk_put (cs := #[.string a0_0, .string (⟨#[]⟩ : ByteArray)]) ?_ 1 _ rfl; (with_reducible repeat (first | refine blk_drewN ?_ _ | refine blk_drew ?_ | refine blk_alloc ?_ _)); refine blk_put (cs := #[.string (⟨#[]⟩ : ByteArray), .string (⟨#[]⟩ : ByteArray)]) ?_ 0 _ rfl; (with_reducible repeat (first | refine blk_drewN ?_ _ | refine blk_drew ?_ | refine blk_alloc ?_ _)); exact BK359.out) Try.underlying83 rfl (by kernel_rfl)) rfl ?_
          exact ⟨fe, bp HB.out⟩
        · rw [if_neg c20] at H
          have c20b0 : (a0_1.toList == a1_0.toList) = false := beq_eq_false_iff_ne.mpr c20
          have c20b1 : (a0_1.toList != a1_0.toList) = true := bne_iff_ne.mpr c20
          simp only [Option.some.injEq, Prod.mk.injEq] at H
          obtain ⟨rfl, rfl, rfl⟩ := H
          go_enter Try.func107, Try.ntmps107
          go_wp2_with (first | ((with_reducible refine gate_dst (N := 2) rfl ?_); refine bxe (N := 2) (cs := #[.string a0_0, .string a0_1]) (t := 83) ?_; intro gb357 hg w34 hbox hb; have BK357 := Aside0.mk (hbox); have GW357 := an2 HB hg; have GE357 := an2 HB hg; replace HB := an0 HB hb; clear hb hbox hg) | ((with_reducible refine gate_dst (N := 3) rfl ?_); refine bxe (N := 3) (cs := #[.string a1_0, .string a1_1]) (t := 83) ?_; intro gb358 hg w35 hbox hb; have BK358 := Aside0.mk (hbox); have GW358 := an2 HB hg; have GE358 := an2 HB hg; have NB357_358 := an3 BK357 hg; have NB358_357 := an4 BK357 hg; replace BK357 := an1 BK357 hb; replace HB := an0 HB hb; clear hb hbox hg) | ((with_reducible refine gate_dst (N := 4) rfl ?_); refine bxe (N := 4) (cs := #[.string (⟨#[]⟩ : ByteArray), .string (⟨#[]⟩ : ByteArray)]) (t := 83) ?_; intro gb359 hg w36 hbox hb; have BK359 := Aside0.mk (hbox); have GW359 := an2 HB hg; have GE359 := an2 HB hg; have NB357_359 := an3 BK357 hg; have NB359_357 := an4 BK357 hg; have NB358_359 := an3 BK358 hg; have NB359_358 := an4 BK358 hg; replace BK357 := an1 BK357 hb; replace BK358 := an1 BK358 hb; replace HB := an0 HB hb; clear hb hbox hg; have hnb37 := NB357_358.out; have hnc37 := NB358_357.out; have hnb38 := NB357_359.out; have hnc38 := NB359_357.out; obtain ⟨hcz39_0, hcz39_1, hfz39_0, hfz39_1⟩ := cl2 BK357) | ((with_reducible refine gate_callee (f := 106) rfl ?_); refine gsl (some 7) rfl Try.func106 #[.agg #[.string a0_0, .string a0_1]] rfl ?_; (with_reducible refine (impl_IntervalValid.calls k a0_0 a0_1 true _ A3.out).mono ?_); rintro e w40 ⟨rfl, hb⟩; refine ⟨_, rfl, ?_⟩; replace BK357 := an1 BK357 hb; replace BK358 := an1 BK358 hb; replace BK359 := an1 BK359 hb; replace HB := an0 HB hb; (try clear hb); (try clear hb2); (try clear hk); (try clear hi); have hnb41 := NB358_359.out; have hnc41 := NB359_358.out; obtain ⟨hcz42_0, hcz42_1, hfz42_0, hfz42_1⟩ := cl2 BK358) | (go_at_call 106; (with_reducible refine (impl_IntervalValid.calls k a1_0 a1_1 true _ A5.out).mono ?_); rintro e w43 ⟨rfl, hb⟩; replace BK357 := an1 BK357 hb; replace BK358 := an1 BK358 hb; replace BK359 := an1 BK359 hb; replace HB := an0 HB hb; (try clear hb); (try clear hb2); (try clear hk); (try clear hi); obtain ⟨hcz44_0, hcz44_1, hfz44_0, hfz44_1⟩ := cl2 BK357; obtain ⟨hcz45_0, hcz45_1, hfz45_0, hfz45_1⟩ := cl2 BK358; obtain ⟨hcz46_0, hcz46_1, hfz46_0, hfz46_1⟩ := cl2 BK359))
          refine bodyPost_ret (results_ct rfl _ _ gb359 83 #[.string (⟨#[]⟩ : ByteArray), .string (⟨#[]⟩ : ByteArray)] (0, 0) _ rfl (by (with_reducible repeat (first | refine blk_drewN ?_ _ | refine blk_drew ?_ | refine blk_alloc ?_ _)); refine blk_put (cs := #[.string (⟨#[]⟩ : ByteArray), .string (⟨#[]⟩ : ByteArray)]) ?_ 1 _ rfl; (with_reducible repeat (first | refine blk_drewN ?_ _ | refine blk_drew ?_ | refine blk_alloc ?_ _)); refine blk_put (cs := #[.string (⟨#[]⟩ : ByteArray), .string (⟨#[]⟩ : ByteArray)]) ?_ 0 _ rfl; (with_reducible repeat (first | refine blk_drewN ?_ _ | refine blk_drew ?_ | refine blk_alloc ?_ _)); exact BK359.out) Try.underlying83 rfl (by kernel_rfl)) rfl ?_
          exact ⟨fe, bp HB.out⟩
    · replace c6 := Bool.eq_false_iff.mpr c6
      subst c6
      have H1 : (some ((⟨#[]⟩ : ByteArray), (⟨#[]⟩ : ByteArray), false)) = some (r1, r2, r3) := by rw [if_neg (show ¬ (false = true) by decide)] at H; exact H
      clear H
      have H := H1
      clear H1
      simp only [Option.some.injEq, Prod.mk.injEq] at H
      obtain ⟨rfl, rfl, rfl⟩ := H
      go_enter Try.func107, Try.ntmps107
      go_wp2_with (first | ((with_reducible refine gate_dst (N := 2) rfl ?_); refine bxe (N := 2) (cs := #[.string a0_0, .string a0_1]) (t := 83) ?_; intro gb357 hg w47 hbox hb; have BK357 := Aside0.mk (hbox); have GW357 := an2 HB hg; have GE357 := an2 HB hg; replace HB := an0 HB hb; clear hb hbox hg) | ((with_reducible refine gate_dst (N := 3) rfl ?_); refine bxe (N := 3) (cs := #[.string a1_0, .string a1_1]) (t := 83) ?_; intro gb358 hg w48 hbox hb; have BK358 := Aside0.mk (hbox); have GW358 := an2 HB hg; have GE358 := an2 HB hg; have NB357_358 := an3 BK357 hg; have NB358_357 := an4 BK357 hg; replace BK357 := an1 BK357 hb; replace HB := an0 HB hb; clear hb hbox hg) | ((with_reducible refine gate_dst (N := 4) rfl ?_); refine bxe (N := 4) (cs := #[.string (⟨#[]⟩ : ByteArray), .string (⟨#[]⟩ : ByteArray)]) (t := 83) ?_; intro gb359 hg w49 hbox hb; have BK359 := Aside0.mk (hbox); have GW359 := an2 HB hg; have GE359 := an2 HB hg; have NB357_359 := an3 BK357 hg; have NB359_357 := an4 BK357 hg; have NB358_359 := an3 BK358 hg; have NB359_358 := an4 BK358 hg; replace BK357 := an1 BK357 hb; replace BK358 := an1 BK358 hb; replace HB := an0 HB hb; clear hb hbox hg; have hnb50 := NB357_358.out; have hnc50 := NB358_357.out; have hnb51 := NB357_359.out; have hnc51 := NB359_357.out; obtain ⟨hcz52_0, hcz52_1, hfz52_0, hfz52_1⟩ := cl2 BK357) | ((with_reducible refine gate_callee (f := 106) rfl ?_); refine gsl (some 7) rfl Try.func106 #[.agg #[.string a0_0, .string a0_1]] rfl ?_; (with_reducible refine (impl_IntervalValid.calls k a0_0 a0_1 true _ A3.out).mono ?_); rintro e w53 ⟨rfl, hb⟩; refine ⟨_, rfl, ?_⟩; replace BK357 := an1 BK357 hb; replace BK358 := an1 BK358 hb; replace BK359 := an1 BK359 hb; replace HB := an0 HB hb; (try clear hb); (try clear hb2); (try clear hk); (try clear hi); have hnb54 := NB358_359.out; have hnc54 := NB359_358.out; obtain ⟨hcz55_0, hcz55_1, hfz55_0, hfz55_1⟩ := cl2 BK358) | (go_at_call 106; (with_reducible refine (impl_IntervalValid.calls k a1_0 a1_1 false _ A5.out).mono ?_); rintro e w56 ⟨rfl, hb⟩; replace BK357 := an1 BK357 hb; replace BK358 := an1 BK358 hb; replace BK359 := an1 BK359 hb; replace HB := an0 HB hb; (try clear hb); (try clear hb2); (try clear hk); (try clear hi); obtain ⟨hcz57_0, hcz57_1, hfz57_0, hfz57_1⟩ := cl2 BK359))
      refine bodyPost_ret (results_ct rfl _ _ gb359 83 #[.string (⟨#[]⟩ : ByteArray), .string (⟨#[]⟩ : ByteArray)] (0, 0) _ rfl (by (with_reducible repeat (first | refine blk_drewN ?_ _ | refine blk_drew ?_ | refine blk_alloc ?_ _)); refine blk_put (cs := #[.string (⟨#[]⟩ : ByteArray), .string (⟨#[]⟩ : ByteArray)]) ?_ 1 _ rfl; (with_reducible repeat (first | refine blk_drewN ?_ _ | refine blk_drew ?_ | refine blk_alloc ?_ _)); refine blk_put (cs := #[.string (⟨#[]⟩ : ByteArray), .string (⟨#[]⟩ : ByteArray)]) ?_ 0 _ rfl; (with_reducible repeat (first | refine blk_drewN ?_ _ | refine blk_drew ?_ | refine blk_alloc ?_ _)); exact BK359.out) Try.underlying83 rfl (by kernel_rfl)) rfl ?_
      exact ⟨fe, bp HB.out⟩
  · replace c4 := Bool.eq_false_iff.mpr c4
    subst c4
    have H1 : (some ((⟨#[]⟩ : ByteArray), (⟨#[]⟩ : ByteArray), false)) = some (r1, r2, r3) := by rw [if_neg (show ¬ (false = true) by decide)] at H; exact H
    clear H
    have H := H1
    clear H1
    simp only [Option.some.injEq, Prod.mk.injEq] at H
    obtain ⟨rfl, rfl, rfl⟩ := H
    go_enter Try.func107, Try.ntmps107
    go_wp2_with (first | ((with_reducible refine gate_dst (N := 2) rfl ?_); refine bxe (N := 2) (cs := #[.string a0_0, .string a0_1]) (t := 83) ?_; intro gb357 hg w58 hbox hb; have BK357 := Aside0.mk (hbox); have GW357 := an2 HB hg; have GE357 := an2 HB hg; replace HB := an0 HB hb; clear hb hbox hg) | ((with_reducible refine gate_dst (N := 3) rfl ?_); refine bxe (N := 3) (cs := #[.string a1_0, .string a1_1]) (t := 83) ?_; intro gb358 hg w59 hbox hb; have BK358 := Aside0.mk (hbox); have GW358 := an2 HB hg; have GE358 := an2 HB hg; have NB357_358 := an3 BK357 hg; have NB358_357 := an4 BK357 hg; replace BK357 := an1 BK357 hb; replace HB := an0 HB hb; clear hb hbox hg) | ((with_reducible refine gate_dst (N := 4) rfl ?_); refine bxe (N := 4) (cs := #[.string (⟨#[]⟩ : ByteArray), .string (⟨#[]⟩ : ByteArray)]) (t := 83) ?_; intro gb359 hg w60 hbox hb; have BK359 := Aside0.mk (hbox); have GW359 := an2 HB hg; have GE359 := an2 HB hg; have NB357_359 := an3 BK357 hg; have NB359_357 := an4 BK357 hg; have NB358_359 := an3 BK358 hg; have NB359_358 := an4 BK358 hg; replace BK357 := an1 BK357 hb; replace BK358 := an1 BK358 hb; replace HB := an0 HB hb; clear hb hbox hg; have hnb61 := NB357_358.out; have hnc61 := NB358_357.out; have hnb62 := NB357_359.out; have hnc62 := NB359_357.out; obtain ⟨hcz63_0, hcz63_1, hfz63_0, hfz63_1⟩ := cl2 BK357) | ((with_reducible refine gate_callee (f := 106) rfl ?_); refine gsl (some 7) rfl Try.func106 #[.agg #[.string a0_0, .string a0_1]] rfl ?_; (with_reducible refine (impl_IntervalValid.calls k a0_0 a0_1 false _ A3.out).mono ?_); rintro e w64 ⟨rfl, hb⟩; refine ⟨_, rfl, ?_⟩; replace BK357 := an1 BK357 hb; replace BK358 := an1 BK358 hb; replace BK359 := an1 BK359 hb; replace HB := an0 HB hb; (try clear hb); (try clear hb2); (try clear hk); (try clear hi); have hnb65 := NB359_358.out; have hnc65 := NB358_359.out; obtain ⟨hcz66_0, hcz66_1, hfz66_0, hfz66_1⟩ := cl2 BK359))
    refine bodyPost_ret (results_ct rfl _ _ gb359 83 #[.string (⟨#[]⟩ : ByteArray), .string (⟨#[]⟩ : ByteArray)] (0, 0) _ rfl (by (with_reducible repeat (first | refine blk_drewN ?_ _ | refine blk_drew ?_ | refine blk_alloc ?_ _)); refine blk_put (cs := #[.string (⟨#[]⟩ : ByteArray), .string (⟨#[]⟩ : ByteArray)]) ?_ 1 _ rfl; (with_reducible repeat (first | refine blk_drewN ?_ _ | refine blk_drew ?_ | refine blk_alloc ?_ _)); refine blk_put (cs := #[.string (⟨#[]⟩ : ByteArray), .string (⟨#[]⟩ : ByteArray)]) ?_ 0 _ rfl; (with_reducible repeat (first | refine blk_drewN ?_ _ | refine blk_drew ?_ | refine blk_alloc ?_ _)); exact BK359.out) Try.underlying83 rfl (by kernel_rfl)) rfl ?_
    exact ⟨fe, bp HB.out⟩

end Go.Proofs.Ytfeeifefmenlmaa.PFnPartDigests
