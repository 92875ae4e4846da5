-- Written by a program of this session, in the manner of the kit's print (wip/pp.py): functions and their contracts.
import Derived.Test.YtcciackemicbbaaDoorPFnExactReadPairsx0
import Derived.Test.YtcciackemicbbaaDoorPFnExactReadPairsx1
namespace Go.Proofs.YtcciackemicbbaaDoor.PFnExactReadPairs
open Go.RowKit Go.Proofs.YtcciackemicbbaaDoorW.PrintWords Go.Proofs.YtcciackemicbbaaDoorW.PrintLast Go.Proofs.YtcciackemicbbaaDoorW.PrintMore
attribute [local go_sem] binOp_leq_str binOp_gtr_str binOp_geq_str max2_int min2_int max_two min_two max_three min_three max_four min_four Instr.field asAgg   -- for this text's walks alone
set_option linter.unusedVariables false
set_option linter.unusedSimpArgs false

/-! ### spec_PairsText: function 26 -/
mutual
def spec_PairsText.l0 : Nat → List (S54) → ByteArray → Int → Option (ByteArray)
  | 0, _, _, _ => none
  | k + 1, a, b, c => if c < (a.length : Int) then ((spec_PairsValid.f k a).bind fun t123 => (spec_PairsText.j1 k a b c t123)) else (spec_PairsText.j1 k a b c false)
def spec_PairsText.j1 : Nat → List (S54) → ByteArray → Int → Bool → Option (ByteArray)
  | 0, _, _, _, _ => none
  | k + 1, a, b, c, d => if d = true then (if c > 0 then (if b.size + 1 ≤ 9223372036854775807 then (if 0 ≤ c then (if c < (a.length : Int) then (if (b ++ (⟨#[32]⟩ : ByteArray)).size + ((rd_T54 a c).f0).size ≤ 9223372036854775807 then (if ((b ++ (⟨#[32]⟩ : ByteArray)) ++ ((rd_T54 a c).f0)).size + 1 ≤ 9223372036854775807 then ((spec_l7Text.f k ((rd_T54 a c).f1)).bind fun t126 => (if (((b ++ (⟨#[32]⟩ : ByteArray)) ++ ((rd_T54 a c).f0)) ++ (⟨#[61]⟩ : ByteArray)).size + t126.size ≤ 9223372036854775807 then (spec_PairsText.l0 k a ((((b ++ (⟨#[32]⟩ : ByteArray)) ++ ((rd_T54 a c).f0)) ++ (⟨#[61]⟩ : ByteArray)) ++ t126) (wrap64 (c + 1))) else (none))) else (none)) else (none)) else (none)) else (none)) else (none)) else (if 0 ≤ c then (if c < (a.length : Int) then (if b.size + ((rd_T54 a c).f0).size ≤ 9223372036854775807 then (if (b ++ ((rd_T54 a c).f0)).size + 1 ≤ 9223372036854775807 then ((spec_l7Text.f k ((rd_T54 a c).f1)).bind fun t129 => (if ((b ++ ((rd_T54 a c).f0)) ++ (⟨#[61]⟩ : ByteArray)).size + t129.size ≤ 9223372036854775807 then (spec_PairsText.l0 k a (((b ++ ((rd_T54 a c).f0)) ++ (⟨#[61]⟩ : ByteArray)) ++ t129) (wrap64 (c + 1))) else (none))) else (none)) else (none)) else (none)) else (none))) else (some b)
end
def spec_PairsText.f (k : Nat) (l0 : List (S54)) : Option (ByteArray) := spec_PairsText.l0 k l0 (⟨#[]⟩ : ByteArray) 0
theorem spec_PairsText.mono_l : ∀ k, (∀ y0 y1 y2, LeO (spec_PairsText.l0 k y0 y1 y2) (spec_PairsText.l0 (k + 1) y0 y1 y2)) ∧ (∀ y0 y1 y2 y3, LeO (spec_PairsText.j1 k y0 y1 y2 y3) (spec_PairsText.j1 (k + 1) y0 y1 y2 y3))
  | 0 => ⟨fun _ _ _ r h => by simp [spec_PairsText.l0] at h, fun _ _ _ _ r h => by simp [spec_PairsText.j1] at h⟩
  | k + 1 => by
    obtain ⟨ih0, ih1⟩ := spec_PairsText.mono_l k
    refine ⟨?_, ?_⟩
    · intro y0 y1 y2
      unfold spec_PairsText.l0
      repeat' with_reducible first | exact ih0 _ _ _ | exact ih1 _ _ _ _ | exact spec_PairsValid.mono .. | exact spec_l7Text.mono .. | exact LeO.refl _ | exact LeO.none _ | refine LeO.ite ?_ ?_ | refine LeO.bind ?_ (fun _ => ?_)
    · intro y0 y1 y2 y3
      unfold spec_PairsText.j1
      repeat' with_reducible first | exact ih0 _ _ _ | exact ih1 _ _ _ _ | exact spec_PairsValid.mono .. | exact spec_l7Text.mono .. | exact LeO.refl _ | exact LeO.none _ | refine LeO.ite ?_ ?_ | refine LeO.bind ?_ (fun _ => ?_)
theorem spec_PairsText.mono : ∀ a0 k, LeO (spec_PairsText.f k a0) (spec_PairsText.f (k + 1) a0) := by
 intro a0 k; obtain ⟨ih0, ih1⟩ := spec_PairsText.mono_l k; unfold spec_PairsText.f; repeat' with_reducible first | exact ih0 _ _ _ | exact ih1 _ _ _ _ | exact spec_PairsValid.mono .. | exact spec_l7Text.mono .. | exact LeO.refl _ | exact LeO.none _ | refine LeO.ite ?_ ?_ | refine LeO.bind ?_ (fun _ => ?_)
def spec_PairsText.T7 : Bool × List (List Nat × List Nat) := (true, [([], []), ([], []), ([], []), ([1, 2], [1, 2]), ([3], [3]), ([4], [4]), ([0, 5], [0, 5]), ([6], [6]), ([], []), ([], []), ([8, 9], [8, 9]), ([10], [10]), ([11], [11]), ([12], [12]), ([7, 13], [7, 13]), ([14, 13, 0, 1, 2, 3, 4, 5, 6, 7, 8, 9, 10, 11, 12, 13, 14], [0, 14])])
def spec_PairsText.B7 : List Nat := [0, 0, 0, 6, 14, 30, 63, 127, 0, 0, 768, 1792, 3840, 7936, 16383, 32767]
theorem spec_PairsText.tab7 : rtab .any (opsOf Tryd.f26 7) = spec_PairsText.T7 := by kernel_rfl
theorem spec_PairsText.bits7 : waitsOk spec_PairsText.T7.2 spec_PairsText.B7 = true := by kernel_rfl
def q26m0 : Array Bool := Array.replicate 16 false
def q26m1 : Array Bool := mkB 16 1
def q26m2 : Array Bool := mkB 16 3
def q26m3 : Array Bool := mkB 16 7
def q26m4 : Array Bool := mkB 16 15
def q26m5 : Array Bool := mkB 16 31
def q26m6 : Array Bool := mkB 16 287
def q26m7 : Array Bool := mkB 16 799
def q26m8 : Array Bool := mkB 16 1823
def q26m9 : Array Bool := mkB 16 3871
def q26m10 : Array Bool := mkB 16 3903
def q26m11 : Array Bool := mkB 16 3967
def q26m12 : Array Bool := mkB 16 4095
def q26m13 : Array Bool := mkB 16 8191
def q26m14 : Array Bool := mkB 16 16383
def q26m15 : Array Bool := mkB 16 32767
def q26m16 : Array Bool := mkB 16 65535
set_option maxHeartbeats 8000000 in
set_option maxRecDepth 100000 in
theorem spec_PairsText.calls (k : Nat) (A0 : Option Addr) (c0 : Nat) (l0 : List (S54)) (r : ByteArray) (w : World) (hr0 : Kd.C k54 w A0 l0.length l0) (hc0 : l0.length ≤ c0) (h : spec_PairsText.f k l0 = some r) :
    Calls Tryd.prog 26 #[.slice A0 l0.length c0] w fun e w' => e = .returned (.string r) ∧ Below w.heap.size w w' := by
 have HR0 := Aside0.mk hr0; have HC0 := Aside0.mk hc0; clear hr0 hc0; have HB := Aside0.mk (Below.refl w.heap.size w); unfold spec_PairsText.f at h; have H := h; clear h; have H' := Aside0.mk H; clear H; go_enter Tryd.func26, Tryd.ntmps26; go_wp2; go_loopg [3, 4] k (fun kq v3 v4 w' => ∃ (x3_1 : ByteArray) (x4_1 : Int), v3 = .string x3_1 ∧ v4 = .int .i64 x4_1 ∧ Aside0 (spec_PairsText.l0 kq l0 x3_1 x4_1 = some r) ∧ Aside0 (kq ≤ k) ∧ Aside0 (Below w.heap.size w w')); case atStart => exact ⟨((⟨#[]⟩ : ByteArray)), (0), zfe, zfe, H', ⟨Nat.le_refl _⟩, ⟨bp HB.out⟩⟩
 case round =>
  clear H'; obtain ⟨x3_1, x4_1, rfl, rfl, HA, HK1, HB⟩ := hrel
  cases gk with
  | zero => exact absurd HA.out (by simp [spec_PairsText.l0])
  | succ k1 =>
   have H := HA.out; clear HA; simp only [spec_PairsText.l0] at H; have HC2 := Aside0.mk H; clear H; go_upto_region 3 with (fail); go_cut [12] (fun v12 wc => ∃ (kq : Nat) (x12_1 : Bool), v12 = .bool x12_1 ∧ Aside0 (spec_PairsText.j1 kq l0 x3_1 x4_1 x12_1 = some r) ∧ Aside0 (kq ≤ k1) ∧ Aside0 (Below w.heap.size w wc))
   case first =>
    have H := HC2.out; clear HC2; by_cases c3 : x4_1 < (l0.length : Int)
    ·rw [if_pos c3] at H; have c3b0 : decide (x4_1 < (l0.length : Int)) = true := decide_eq_true c3; clear c3; (first | rw [c3b0] | (simp only [i64_w, i32_w]; rw [c3b0]) | skip); obtain ⟨t123, A4, H⟩ := zbd H; (try dsimp only at H); have H' := Aside0.mk H; clear H; (go_wp2_with (first | (go_at_call 46; (with_reducible refine (spec_PairsValid.calls k1 _ _ l0 t123 _ ?side1 ?side2 A4.out).mono ?_); (case side1 => exact cc (Kd.C_below HR0.out HB.out)); (case side2 => exact HC0.out); rintro e w5 ⟨rfl, hb⟩; replace HB := an0 HB hb; (try clear hb); (try clear hb2); (try clear hk); (try clear hi); (try clear hgw)))); go_meet; case rel => exact ⟨_, (t123), zfe, H', ⟨by have := HK1.out; first | omega | exact Nat.le_refl _⟩, ⟨bp HB.out⟩⟩
    ·rw [if_neg c3] at H; have c3b0 : decide (x4_1 < (l0.length : Int)) = false := decide_eq_false c3; clear c3; (first | rw [c3b0] | (simp only [i64_w, i32_w]; rw [c3b0]) | skip); have H' := Aside0.mk H; clear H; go_wp2; go_meet; case rel => exact ⟨_, (false), zfe, H', ⟨by have := HK1.out; first | omega | exact Nat.le_refl _⟩, ⟨bp HB.out⟩⟩
   case rest =>
    clear HC2; (try clear c2); (try clear p2); (try clear c3); (try clear c3b0); obtain ⟨kq, x12_1, rfl, HA, HJ1, HB⟩ := hcut
    cases kq with
    | zero => exact absurd HA.out (by simp [spec_PairsText.j1])
    | succ kj1 =>
     have H := HA.out; clear HA; simp only [spec_PairsText.j1] at H; by_cases c6 : x12_1 = true
     ·subst c6; rw [if_pos rfl] at H; by_cases c7 : x4_1 > 0
      ·rw [if_pos c7] at H; have c7b0 : decide (0 < x4_1) = true := decide_eq_true c7; clear c7; by_cases c8 : x3_1.size + 1 ≤ 9223372036854775807
       ·rw [if_pos c8] at H; have c8b0 := eq_true c8; have c8b1 : decide (x3_1.size + 1 ≤ 9223372036854775807) = true := decide_eq_true c8; (try have c8b2 : (9223372036854775807 < x3_1.size + 1) = False := eq_false (Nat.not_lt.2 c8)); by_cases c9 : 0 ≤ x4_1
        ·rw [if_pos c9] at H; have c9b0 : decide (0 ≤ x4_1) = true := decide_eq_true c9; clear c9; by_cases c10 : x4_1 < (l0.length : Int)
         ·rw [if_pos c10] at H; have c10b0 : decide (x4_1 < (l0.length : Int)) = true := decide_eq_true c10; clear c10; by_cases c11 : (x3_1 ++ (⟨#[32]⟩ : ByteArray)).size + ((rd_T54 l0 x4_1).f0).size ≤ 9223372036854775807
          ·rw [if_pos c11] at H; have c11b0 := eq_true c11; have c11b1 : decide ((x3_1 ++ (⟨#[32]⟩ : ByteArray)).size + ((rd_T54 l0 x4_1).f0).size ≤ 9223372036854775807) = true := decide_eq_true c11; (try have c11b2 : (9223372036854775807 < (x3_1 ++ (⟨#[32]⟩ : ByteArray)).size + ((rd_T54 l0 x4_1).f0).size) = False := eq_false (Nat.not_lt.2 c11)); (try (have c11b3 := c11b2; conv at c11b3 => (lhs; simp [go_sem]))); by_cases c12 : ((x3_1 ++ (⟨#[32]⟩ : ByteArray)) ++ ((rd_T54 l0 x4_1).f0)).size + 1 ≤ 9223372036854775807
           ·rw [if_pos c12] at H; have c12b0 := eq_true c12; have c12b1 : decide (((x3_1 ++ (⟨#[32]⟩ : ByteArray)) ++ ((rd_T54 l0 x4_1).f0)).size + 1 ≤ 9223372036854775807) = true := decide_eq_true c12; (try have c12b2 : (9223372036854775807 < ((x3_1 ++ (⟨#[32]⟩ : ByteArray)) ++ ((rd_T54 l0 x4_1).f0)).size + 1) = False := eq_false (Nat.not_lt.2 c12)); (try (have c12b3 := c12b2; conv at c12b3 => (lhs; simp [go_sem]))); obtain ⟨t126, A13, H⟩ := zbd H; (try dsimp only at H); by_cases c14 : (((x3_1 ++ (⟨#[32]⟩ : ByteArray)) ++ ((rd_T54 l0 x4_1).f0)) ++ (⟨#[61]⟩ : ByteArray)).size + t126.size ≤ 9223372036854775807
            ·rw [if_pos c14] at H; have c14b0 := eq_true c14; have c14b1 : decide ((((x3_1 ++ (⟨#[32]⟩ : ByteArray)) ++ ((rd_T54 l0 x4_1).f0)) ++ (⟨#[61]⟩ : ByteArray)).size + t126.size ≤ 9223372036854775807) = true := decide_eq_true c14; (try have c14b2 : (9223372036854775807 < (((x3_1 ++ (⟨#[32]⟩ : ByteArray)) ++ ((rd_T54 l0 x4_1).f0)) ++ (⟨#[61]⟩ : ByteArray)).size + t126.size) = False := eq_false (Nat.not_lt.2 c14)); (try (have c14b3 := c14b2; conv at c14b3 => (lhs; simp [go_sem]))); have H' := Aside0.mk H; clear H; (try go_wp2); have n0_ := Aside0.mk (below_drew1 HB.out); clear HB; have HB := n0_; clear n0_; have p124 : 0 ≤ (x4_1 : Int) := zda; have q124 : x4_1 < (l0.length : Int) := zda; obtain ⟨ad124, e124, hx124_0, hx124_1⟩ := at_T54 HR0.out x4_1 p124 q124; have hw124_1 := hx124_1; have hw124_0 := hx124_0; cases e124; replace hx124_0 := hcx HB hx124_0; replace hx124_1 := hcx HB hx124_1; replace p124 := eq_true p124; replace q124 := eq_true q124; have p125 : 0 ≤ (x4_1 : Int) := zda; have q125 : x4_1 < (l0.length : Int) := zda; obtain ⟨ad125, e125, hx125_0, hx125_1⟩ := at_T54 HR0.out x4_1 p125 q125; have hw125_1 := hx125_1; have hw125_0 := hx125_0; (obtain rfl : ad124 = ad125 := (by injection e125)); replace hx125_0 := hcx HB hx125_0; replace hx125_1 := hcx HB hx125_1; replace p125 := eq_true p125; replace q125 := eq_true q125; (refine start_ (n := 16) (S := fun w' => w'.cell? (ad124.add ((x4_1).toNat * 2)) = some (.string ((rd_T54 l0 x4_1).f0)) ∧ w'.cell? ⟨(ad124.add ((x4_1).toNat * 2)).block, (ad124.add ((x4_1).toNat * 2)).off + 1, none⟩ = some (.int .i64 ((rd_T54 l0 x4_1).f1)) ∧ w'.cell? (ad124.add ((x4_1).toNat * 2)) = some (.string ((rd_T54 l0 x4_1).f0)) ∧ w'.cell? ⟨(ad124.add ((x4_1).toNat * 2)).block, (ad124.add ((x4_1).toNat * 2)).off + 1, none⟩ = some (.int .i64 ((rd_T54 l0 x4_1).f1))) (ds := []) q26m0 (by kernel_rfl) rfl rfl ⟨(hcx HB hw124_0), (hcx HB hw124_1), (hcx HB hw125_0), (hcx HB hw125_1)⟩ (fun hHeld => ?_); refine with_tabW spec_PairsText.tab7 spec_PairsText.bits7 (fun HT_ HW_ => ?_)); generalize wc.drew = w15 at HB hx124_0 hx124_1 hx125_0 hx125_1 hHeld ⊢; refine zp 0 19 q26m1 HT_.out ?_; refine zp 1 20 q26m2 HT_.out ?_; refine zp 2 21 q26m3 HT_.out ?_; refine zp 3 22 q26m4 HT_.out ?_; refine zp 4 23 q26m5 HT_.out ?_; refine zp 8 27 q26m6 HT_.out ?_; refine zp 9 28 q26m7 HT_.out ?_; refine zp 10 29 q26m8 HT_.out ?_; refine zp 11 30 q26m9 HT_.out ?_; refine tak (i := 5) (N := some 24) q26m10 rfl rfl HT_.out HW_.out hHeld ?_; refine zp 6 25 q26m11 HT_.out ?_; refine zp 7 26 q26m12 HT_.out ?_; refine tak (i := 12) (N := some 31) q26m13 rfl rfl HT_.out HW_.out hHeld ?_; refine ones (i := 13) (N := some 32) q26m14 rfl rfl HT_.out (fun K hK => ?_); refine gos Tryd.func17 #[.int .i64 ((rd_T54 l0 x4_1).f1)] rfl ?_; (with_reducible refine (spec_l7Text.calls kj1 ((rd_T54 l0 x4_1).f1) t126 _ A13.out).mono ?_); rintro e w16 ⟨rfl, hb⟩; refine ⟨_, rfl, ?_⟩; have n0_ := an0 HB hb; clear HB; have HB := n0_; clear n0_; (try clear hb); (try clear hb2); (try clear hk); (try clear hi); (try clear hgw); refine hK.out _ _ ⟨(hcx HB hw124_0), (hcx HB hw124_1), (hcx HB hw125_0), (hcx HB hw125_1)⟩ (fun hHeld => ?_); clear hK K; refine norm_ (a' := ?_) ?_ ?_; rotate_left
             ·show Act.put _ (some 32) _ = _; simp only [Act.put, List.setIfInBounds_toArray, List.set_cons_zero, List.set_cons_succ, i64_w, i32_w]; rfl
             refine zp 14 33 q26m15 HT_.out ?_; refine zp 15 3 q26m16 HT_.out ?_; (refine done_ (done_of HT_.out (by kernel_rfl)) ?_); (try go_wp2); go_roundg kj1; (case measure => have := HK1.out; have := HJ1.out; omega); case rel => exact ⟨((((x3_1 ++ (⟨#[32]⟩ : ByteArray)) ++ ((rd_T54 l0 x4_1).f0)) ++ (⟨#[61]⟩ : ByteArray)) ++ t126), (wrap64 (x4_1 + 1)), zfe, zfe, H', ⟨by have := HK1.out; have := HJ1.out; omega⟩, ⟨bp HB.out⟩⟩
            ·rw [if_neg c14] at H; exact absurd H (by simp)
           ·rw [if_neg c12] at H; exact absurd H (by simp)
          ·rw [if_neg c11] at H; exact absurd H (by simp)
         ·rw [if_neg c10] at H; exact absurd H (by simp)
        ·rw [if_neg c9] at H; exact absurd H (by simp)
       ·rw [if_neg c8] at H; exact absurd H (by simp)
      ·rw [if_neg c7] at H; have c7b0 : decide (0 < x4_1) = false := decide_eq_false c7; clear c7; by_cases c17 : 0 ≤ x4_1
       ·rw [if_pos c17] at H; have c17b0 : decide (0 ≤ x4_1) = true := decide_eq_true c17; clear c17; by_cases c18 : x4_1 < (l0.length : Int)
        ·rw [if_pos c18] at H; have c18b0 : decide (x4_1 < (l0.length : Int)) = true := decide_eq_true c18; clear c18; by_cases c19 : x3_1.size + ((rd_T54 l0 x4_1).f0).size ≤ 9223372036854775807
         ·rw [if_pos c19] at H; have c19b0 := eq_true c19; have c19b1 : decide (x3_1.size + ((rd_T54 l0 x4_1).f0).size ≤ 9223372036854775807) = true := decide_eq_true c19; (try have c19b2 : (9223372036854775807 < x3_1.size + ((rd_T54 l0 x4_1).f0).size) = False := eq_false (Nat.not_lt.2 c19)); by_cases c20 : (x3_1 ++ ((rd_T54 l0 x4_1).f0)).size + 1 ≤ 9223372036854775807
          ·rw [if_pos c20] at H; have c20b0 := eq_true c20; have c20b1 : decide ((x3_1 ++ ((rd_T54 l0 x4_1).f0)).size + 1 ≤ 9223372036854775807) = true := decide_eq_true c20; (try have c20b2 : (9223372036854775807 < (x3_1 ++ ((rd_T54 l0 x4_1).f0)).size + 1) = False := eq_false (Nat.not_lt.2 c20)); (try (have c20b3 := c20b2; conv at c20b3 => (lhs; simp [go_sem]))); obtain ⟨t129, A21, H⟩ := zbd H; (try dsimp only at H); by_cases c22 : ((x3_1 ++ ((rd_T54 l0 x4_1).f0)) ++ (⟨#[61]⟩ : ByteArray)).size + t129.size ≤ 9223372036854775807
           ·rw [if_pos c22] at H; have c22b0 := eq_true c22; have c22b1 : decide (((x3_1 ++ ((rd_T54 l0 x4_1).f0)) ++ (⟨#[61]⟩ : ByteArray)).size + t129.size ≤ 9223372036854775807) = true := decide_eq_true c22; (try have c22b2 : (9223372036854775807 < ((x3_1 ++ ((rd_T54 l0 x4_1).f0)) ++ (⟨#[61]⟩ : ByteArray)).size + t129.size) = False := eq_false (Nat.not_lt.2 c22)); (try (have c22b3 := c22b2; conv at c22b3 => (lhs; simp [go_sem]))); have H' := Aside0.mk H; clear H; (try go_wp2); have n0_ := Aside0.mk (below_drew1 HB.out); clear HB; have HB := n0_; clear n0_; have p127 : 0 ≤ (x4_1 : Int) := zda; have q127 : x4_1 < (l0.length : Int) := zda; obtain ⟨ad127, e127, hx127_0, hx127_1⟩ := at_T54 HR0.out x4_1 p127 q127; have hw127_1 := hx127_1; have hw127_0 := hx127_0; cases e127; replace hx127_0 := hcx HB hx127_0; replace hx127_1 := hcx HB hx127_1; replace p127 := eq_true p127; replace q127 := eq_true q127; have p128 : 0 ≤ (x4_1 : Int) := zda; have q128 : x4_1 < (l0.length : Int) := zda; obtain ⟨ad128, e128, hx128_0, hx128_1⟩ := at_T54 HR0.out x4_1 p128 q128; have hw128_1 := hx128_1; have hw128_0 := hx128_0; (obtain rfl : ad127 = ad128 := (by injection e128)); replace hx128_0 := hcx HB hx128_0; replace hx128_1 := hcx HB hx128_1; replace p128 := eq_true p128; replace q128 := eq_true q128; (refine start_ (n := 16) (S := fun w' => w'.cell? (ad127.add ((x4_1).toNat * 2)) = some (.string ((rd_T54 l0 x4_1).f0)) ∧ w'.cell? ⟨(ad127.add ((x4_1).toNat * 2)).block, (ad127.add ((x4_1).toNat * 2)).off + 1, none⟩ = some (.int .i64 ((rd_T54 l0 x4_1).f1)) ∧ w'.cell? (ad127.add ((x4_1).toNat * 2)) = some (.string ((rd_T54 l0 x4_1).f0)) ∧ w'.cell? ⟨(ad127.add ((x4_1).toNat * 2)).block, (ad127.add ((x4_1).toNat * 2)).off + 1, none⟩ = some (.int .i64 ((rd_T54 l0 x4_1).f1))) (ds := []) q26m0 (by kernel_rfl) rfl rfl ⟨(hcx HB hw127_0), (hcx HB hw127_1), (hcx HB hw128_0), (hcx HB hw128_1)⟩ (fun hHeld => ?_); refine with_tabW spec_PairsText.tab7 spec_PairsText.bits7 (fun HT_ HW_ => ?_)); generalize wc.drew = w23 at HB hx127_0 hx127_1 hx128_0 hx128_1 hHeld ⊢; refine zp 0 19 q26m1 HT_.out ?_; refine zp 1 20 q26m2 HT_.out ?_; refine zp 2 21 q26m3 HT_.out ?_; refine zp 3 22 q26m4 HT_.out ?_; refine zp 4 23 q26m5 HT_.out ?_; refine zp 8 27 q26m6 HT_.out ?_; refine zp 9 28 q26m7 HT_.out ?_; refine zp 10 29 q26m8 HT_.out ?_; refine zp 11 30 q26m9 HT_.out ?_; refine tak (i := 5) (N := some 24) q26m10 rfl rfl HT_.out HW_.out hHeld ?_; refine zp 6 25 q26m11 HT_.out ?_; refine zp 7 26 q26m12 HT_.out ?_; refine tak (i := 12) (N := some 31) q26m13 rfl rfl HT_.out HW_.out hHeld ?_; refine ones (i := 13) (N := some 32) q26m14 rfl rfl HT_.out (fun K hK => ?_); refine gos Tryd.func17 #[.int .i64 ((rd_T54 l0 x4_1).f1)] rfl ?_; (with_reducible refine (spec_l7Text.calls kj1 ((rd_T54 l0 x4_1).f1) t129 _ A21.out).mono ?_); rintro e w24 ⟨rfl, hb⟩; refine ⟨_, rfl, ?_⟩; have n0_ := an0 HB hb; clear HB; have HB := n0_; clear n0_; (try clear hb); (try clear hb2); (try clear hk); (try clear hi); (try clear hgw); refine hK.out _ _ ⟨(hcx HB hw127_0), (hcx HB hw127_1), (hcx HB hw128_0), (hcx HB hw128_1)⟩ (fun hHeld => ?_); clear hK K; refine norm_ (a' := ?_) ?_ ?_; rotate_left
            ·show Act.put _ (some 32) _ = _; simp only [Act.put, List.setIfInBounds_toArray, List.set_cons_zero, List.set_cons_succ, i64_w, i32_w]; rfl
            refine zp 14 33 q26m15 HT_.out ?_; refine zp 15 3 q26m16 HT_.out ?_; (refine done_ (done_of HT_.out (by kernel_rfl)) ?_); (try go_wp2); go_roundg kj1; (case measure => have := HK1.out; have := HJ1.out; omega); case rel => exact ⟨(((x3_1 ++ ((rd_T54 l0 x4_1).f0)) ++ (⟨#[61]⟩ : ByteArray)) ++ t129), (wrap64 (x4_1 + 1)), zfe, zfe, H', ⟨by have := HK1.out; have := HJ1.out; omega⟩, ⟨bp HB.out⟩⟩
           ·rw [if_neg c22] at H; exact absurd H (by simp)
          ·rw [if_neg c20] at H; exact absurd H (by simp)
         ·rw [if_neg c19] at H; exact absurd H (by simp)
        ·rw [if_neg c18] at H; exact absurd H (by simp)
       ·rw [if_neg c17] at H; exact absurd H (by simp)
     ·replace c6 := Bool.eq_false_iff.mpr c6; subst c6; rw [if_neg zft] at H; obtain rfl := Option.some.inj H; go_wp2; go_ret; exact ⟨fe, bp HB.out⟩
/-! ### spec_ReadPairs: function 10 -/
mutual
def spec_ReadPairs.l0 : Nat → ByteArray → List (S54) → List ByteArray → Int → Option ((List (S54)) × Bool)
  | 0, _, _, _, _ => none
  | k + 1, a, b, c, d => if d < (c.length : Int) then (if a.toList = ([] : List UInt8) then (spec_ReadPairs.j1 k a b c d false) else (spec_ReadPairs.j1 k a b c d (decide (d ≤ 48)))) else (spec_ReadPairs.j1 k a b c d false)
def spec_ReadPairs.j1 : Nat → ByteArray → List (S54) → List ByteArray → Int → Bool → Option ((List (S54)) × Bool)
  | 0, _, _, _, _, _ => none
  | k + 1, a, b, c, d, e => if e = true then (if 0 ≤ d then (if d < (c.length : Int) then ((spec_l41Split.f k (rdOf ByteArray.empty c d) 61).bind fun bt137 => ((spec_l7Number.f k bt137.2.1).bind fun t140 => (if b.length < 5864062014805 then (spec_ReadPairs.l0 k a (b ++ [(⟨bt137.1, t140⟩ : S54)]) c (wrap64 (d + 1))) else (none)))) else (none)) else (none)) else ((spec_PairsText.f k b).bind fun t144 => (if t144.toList = a.toList then (some (b, true)) else (some ((([] : List (S54))), false))))
end
def spec_ReadPairs.f (k : Nat) (a0 : ByteArray) : Option ((List (S54)) × Bool) := (spec_l7Words.f k a0).bind fun t133 => (spec_ReadPairs.l0 k a0 (([] : List (S54))) t133 0)
theorem spec_ReadPairs.mono_l : ∀ k, (∀ y0 y1 y2 y3, LeO (spec_ReadPairs.l0 k y0 y1 y2 y3) (spec_ReadPairs.l0 (k + 1) y0 y1 y2 y3)) ∧ (∀ y0 y1 y2 y3 y4, LeO (spec_ReadPairs.j1 k y0 y1 y2 y3 y4) (spec_ReadPairs.j1 (k + 1) y0 y1 y2 y3 y4))
  | 0 => ⟨fun _ _ _ _ r h => by simp [spec_ReadPairs.l0] at h, fun _ _ _ _ _ r h => by simp [spec_ReadPairs.j1] at h⟩
  | k + 1 => by
    obtain ⟨ih0, ih1⟩ := spec_ReadPairs.mono_l k
    refine ⟨?_, ?_⟩
    · intro y0 y1 y2 y3
      unfold spec_ReadPairs.l0
      repeat' with_reducible first | exact ih0 _ _ _ _ | exact ih1 _ _ _ _ _ | exact spec_PairsText.mono .. | exact spec_l41Split.mono .. | exact spec_l7Number.mono .. | exact spec_l7Words.mono .. | exact LeO.refl _ | exact LeO.none _ | refine LeO.ite ?_ ?_ | refine LeO.bind ?_ (fun _ => ?_)
    · intro y0 y1 y2 y3 y4
      unfold spec_ReadPairs.j1
      repeat' with_reducible first | exact ih0 _ _ _ _ | exact ih1 _ _ _ _ _ | exact spec_PairsText.mono .. | exact spec_l41Split.mono .. | exact spec_l7Number.mono .. | exact spec_l7Words.mono .. | exact LeO.refl _ | exact LeO.none _ | refine LeO.ite ?_ ?_ | refine LeO.bind ?_ (fun _ => ?_)
theorem spec_ReadPairs.mono : ∀ a0 k, LeO (spec_ReadPairs.f k a0) (spec_ReadPairs.f (k + 1) a0) := by
 intro a0 k; obtain ⟨ih0, ih1⟩ := spec_ReadPairs.mono_l k; unfold spec_ReadPairs.f; repeat' with_reducible first | exact ih0 _ _ _ _ | exact ih1 _ _ _ _ _ | exact spec_PairsText.mono .. | exact spec_l41Split.mono .. | exact spec_l7Number.mono .. | exact spec_l7Words.mono .. | exact LeO.refl _ | exact LeO.none _ | refine LeO.ite ?_ ?_ | refine LeO.bind ?_ (fun _ => ?_)
set_option maxHeartbeats 8000000 in
set_option maxRecDepth 100000 in
theorem spec_ReadPairs.calls (k : Nat) (a0 : ByteArray) (r1 : List (S54)) (r2 : Bool) (w : World) (h : spec_ReadPairs.f k a0 = some (r1, r2)) :
    Calls Tryd.prog 10 #[.string a0] w fun e w' => ∃ v0_ : Value, e = .returned (.tuple #[v0_, .bool r2]) ∧ Kd.R k54 54 w' w.heap.size (fun _ => True) v0_ r1 ∧ Below w.heap.size w w' := by
 have hu54 := Tryd.underlying54; have HB := Aside0.mk (Below.refl w.heap.size w); unfold spec_ReadPairs.f at h; have H := h; clear h; obtain ⟨y130, hy130⟩ : ∃ y_ : List (S54), y_ = (([] : List (S54))) := ⟨_, rfl⟩; (replace H : ((spec_l7Words.f k a0).bind fun t133 => (spec_ReadPairs.l0 k a0 y130 t133 0)) = some (r1, r2) := zsy H hy130); have Ny130 := Aside0.mk hy130; clear hy130; obtain ⟨t133, A2, H⟩ := zbd H; (try dsimp only at H); have H' := Aside0.mk H; clear H; go_enter Tryd.func10, Tryd.ntmps10; (go_wp2_with (first | ((with_reducible refine gate_dst (N := 10) rfl ?_); refine Kd.R_lit k54 _ 54 ?hg (N := 10) ?hd (xs := ([] : List (S54))) (inner := []) (ok := fun _ => True) (okp := fun _ => True) ?hr ?hp (fun _ hk => hk) trivial (Below.refl _ _) (Nat.le_refl _) (by simp) ?_; (case hd => rfl); (case hg => rfl); (case hr => first | (go_simp; done) | (go_simp; rfl)); (case hp => exact (Reps.none _ _)); intro v131 w3 ho4 hb hg_ hnew_; clear hg_ hnew_; (first | rw [← Ny130.out] at ho4 | (simp only [Int.reduceToNat] at ho4; rw [← Ny130.out] at ho4)); have n_ := zn2 (Aside0.mk (Kd.R_lower ho4 (below_size (bp HB.out)))) (an0 HB hb); clear HB; obtain ⟨HO132, HB⟩ := n_; clear hb ho4) | ((with_reducible refine gate_callee (f := 23) rfl ?_); refine goesL_ (some 12) rfl rfl Tryd.func23 (by kernel_rfl) rfl #[.string a0] rfl (by (try simp only [List.map_toArray, List.map_cons, List.map_nil]); first | done | rfl | (simp only [List.length_drop, List.length_take]; rfl)) ?_; (with_reducible refine (spec_l7Words.calls k a0 t133 _ A2.out).mono ?_); rintro e w5 ⟨v134, rfl, ho0, hb⟩; refine ⟨_, rfl, ?_⟩; have n_ := zn3 (Aside0.mk (Kd.R_below (kr HO132.out) hb)) (Aside0.mk (Kd.R_lower ho0 (below_size (bp HB.out)))) (an0 HB hb); clear HO132 HB; obtain ⟨HO132, HO135, HB⟩ := n_; (try clear hb); (try clear hk); (try clear ho0)))); go_loopg [4, 6] k (fun kq v4 v6 w' => ∃ (x4_1 : List (S54)) (x6_1 : Int), v6 = .int .i64 x6_1 ∧ Aside0 (spec_ReadPairs.l0 kq a0 x4_1 t133 x6_1 = some (r1, r2)) ∧ Aside0 (kq ≤ k) ∧ Aside0 (Kd.R k54 54 w' w.heap.size (fun _ => True) v4 x4_1) ∧ Aside0 (Kd.R Kd.string 9 w' w.heap.size (fun _ => True) v134 t133) ∧ Aside0 (Below w.heap.size w w')); case atStart => exact ⟨(y130), (0), zfe, H', ⟨Nat.le_refl _⟩, ⟨by (with_reducible repeat (first | apply Kd.R_alloc | apply Kd.R_drewN | apply Kd.R_drew)); exact HO132.out⟩, ⟨by (with_reducible repeat (first | apply Kd.R_alloc | apply Kd.R_drewN | apply Kd.R_drew)); exact HO135.out⟩, ⟨bp HB.out⟩⟩
 case round =>
  clear H'; (try clear c1); (try clear c2); (try clear p2); obtain ⟨x4_1, x6_1, rfl, HA, HK1, HO_4, HO_5, HB⟩ := hrel
  cases gk with
  | zero => exact absurd HA.out (by simp [spec_ReadPairs.l0])
  | succ k1 =>
   have H := HA.out; clear HA; simp only [spec_ReadPairs.l0] at H; have HC6 := Aside0.mk H; clear H; go_upto_region 4 with (fail); go_cut [24] (fun v24 wc => ∃ (kq : Nat) (x24_5 : Bool), v24 = .bool x24_5 ∧ Aside0 (spec_ReadPairs.j1 kq a0 x4_1 t133 x6_1 x24_5 = some (r1, r2)) ∧ Aside0 (kq ≤ k1) ∧ Aside0 (Kd.R k54 54 wc w.heap.size (fun _ => True) u4 x4_1) ∧ Aside0 (Kd.R Kd.string 9 wc w.heap.size (fun _ => True) v134 t133) ∧ Aside0 (Below w.heap.size w wc))
   case first =>
    have H := HC6.out; clear HC6; by_cases c7 : x6_1 < (t133.length : Int)
    ·rw [if_pos c7] at H; have c7b0 : decide (x6_1 < (t133.length : Int)) = true := decide_eq_true c7; clear c7; (first | rw [c7b0] | (simp only [i64_w, i32_w]; rw [c7b0]) | skip); by_cases c8 : a0.toList = ([] : List UInt8)
     ·rw [if_pos c8] at H; have c8b0 : (a0.toList == ([] : List UInt8)) = true := beq_iff_eq.mpr c8; have c8b1 : (a0.toList != ([] : List UInt8)) = false := bne_eq_false_iff_eq.mpr c8; clear c8; have H' := Aside0.mk H; clear H; obtain ⟨Ao9, co9, eo9⟩ := Kd.R_slice HO_5.out; subst eo9; go_wp2; go_meet; case rel => exact ⟨_, (false), zfe, H', ⟨by have := HK1.out; first | omega | exact Nat.le_refl _⟩, ⟨by (with_reducible repeat (first | apply Kd.R_alloc | apply Kd.R_drewN | apply Kd.R_drew)); exact HO_4.out⟩, ⟨by (with_reducible repeat (first | apply Kd.R_alloc | apply Kd.R_drewN | apply Kd.R_drew)); exact HO_5.out⟩, ⟨bp HB.out⟩⟩
     ·rw [if_neg c8] at H; have c8b0 : (a0.toList == ([] : List UInt8)) = false := beq_eq_false_iff_ne.mpr c8; have c8b1 : (a0.toList != ([] : List UInt8)) = true := bne_iff_ne.mpr c8; have H' := Aside0.mk H; clear H; obtain ⟨Ao10, co10, eo10⟩ := Kd.R_slice HO_5.out; subst eo10; go_wp2; go_meet; case rel => exact ⟨_, (decide (x6_1 ≤ 48)), zfe, H', ⟨by have := HK1.out; first | omega | exact Nat.le_refl _⟩, ⟨by (with_reducible repeat (first | apply Kd.R_alloc | apply Kd.R_drewN | apply Kd.R_drew)); exact HO_4.out⟩, ⟨by (with_reducible repeat (first | apply Kd.R_alloc | apply Kd.R_drewN | apply Kd.R_drew)); exact HO_5.out⟩, ⟨bp HB.out⟩⟩
    ·rw [if_neg c7] at H; have c7b0 : decide (x6_1 < (t133.length : Int)) = false := decide_eq_false c7; clear c7; (first | rw [c7b0] | (simp only [i64_w, i32_w]; rw [c7b0]) | skip); have H' := Aside0.mk H; clear H; obtain ⟨Ao11, co11, eo11⟩ := Kd.R_slice HO_5.out; subst eo11; go_wp2; go_meet; case rel => exact ⟨_, (false), zfe, H', ⟨by have := HK1.out; first | omega | exact Nat.le_refl _⟩, ⟨by (with_reducible repeat (first | apply Kd.R_alloc | apply Kd.R_drewN | apply Kd.R_drew)); exact HO_4.out⟩, ⟨by (with_reducible repeat (first | apply Kd.R_alloc | apply Kd.R_drewN | apply Kd.R_drew)); exact HO_5.out⟩, ⟨bp HB.out⟩⟩
   case rest =>
    clear HC6; obtain ⟨kq, x24_5, rfl, HA, HJ5, HO_4, HO_5, HB⟩ := hcut
    cases kq with
    | zero => exact absurd HA.out (by simp [spec_ReadPairs.j1])
    | succ kj5 =>
     have H := HA.out; clear HA; simp only [spec_ReadPairs.j1] at H; by_cases c12 : x24_5 = true
     ·subst c12; rw [if_pos rfl] at H; by_cases c13 : 0 ≤ x6_1
      ·rw [if_pos c13] at H; have c13b0 : decide (0 ≤ x6_1) = true := decide_eq_true c13; clear c13; by_cases c14 : x6_1 < (t133.length : Int)
       ·rw [if_pos c14] at H; have c14b0 : decide (x6_1 < (t133.length : Int)) = true := decide_eq_true c14; clear c14; obtain ⟨⟨t137, t138, t139⟩, A15, H⟩ := zbd H; (try dsimp only at H); obtain ⟨t140, A16, H⟩ := zbd H; (try dsimp only at H); by_cases c17 : x4_1.length < 5864062014805
        ·rw [if_pos c17] at H; have LMc17 := Aside0.mk c17; clear c17; obtain ⟨y141, hy141⟩ : ∃ y_ : List (S54), y_ = (x4_1 ++ [(⟨t137, t140⟩ : S54)]) := ⟨_, rfl⟩; (replace H : (spec_ReadPairs.l0 kj5 a0 y141 t133 (wrap64 (x6_1 + 1))) = some (r1, r2) := zsy H hy141); have Ny141 := Aside0.mk hy141; clear hy141; have H' := Aside0.mk H; clear H; obtain ⟨Ao18, co18, eo18⟩ := Kd.R_slice HO_5.out; subst eo18; have p136 : 0 ≤ (x6_1 : Int) := zda; have q136 : x6_1 < (t133.length : Int) := zda; obtain ⟨ad136, e136, hx136_0⟩ := Kd.at_string (Kd.R_reads' HO_5.out).2.2 x6_1 p136 q136; cases e136; replace p136 := eq_true p136; replace q136 := eq_true q136; (go_wp2_with (first | ((with_reducible refine gate_callee (f := 24) rfl ?_); refine goesL_ (some 32) rfl rfl Tryd.func24 (by kernel_rfl) rfl #[.string (rdOf ByteArray.empty t133 x6_1), .int .u8 61] rfl (by (try simp only [List.map_toArray, List.map_cons, List.map_nil]); first | done | rfl | (simp only [List.length_drop, List.length_take]; rfl)) ?_; (with_reducible refine (spec_l41Split.calls kj5 (rdOf ByteArray.empty t133 x6_1) 61 t137 t138 t139 _ A15.out).mono ?_); rintro e w' ⟨rfl, ⟨nd, rfl⟩⟩; refine ⟨_, rfl, ?_⟩) | ((with_reducible refine gate_callee (f := 25) rfl ?_); refine goesL_ (some 39) rfl rfl Tryd.func25 (by kernel_rfl) rfl #[.string t138] rfl (by (try simp only [List.map_toArray, List.map_cons, List.map_nil]); first | done | rfl | (simp only [List.length_drop, List.length_take]; rfl)) ?_; (with_reducible refine (spec_l7Number.calls kj5 t138 t140 _ A16.out).mono ?_); rintro e w' ⟨rfl, ⟨nd, rfl⟩⟩; refine ⟨_, rfl, ?_⟩) | ((with_reducible refine gate_builtin (b := .append) (xs := #[.tmp 36, .tmp 41]) rfl ?_); at_builtin; refine Kd.R_append k54 (w0 := w) w.heap.size rfl (.tmp 36) (.tmp 41) 29 54 (.agg #[(.string ⟨#[]⟩), (.int .i64 0)]) 24 rfl Tryd.underlying29 info54 rfl (by decide) (by omega) u4 x4_1 (⟨t137, t140⟩ : S54) [.string t137, .int .i64 t140] (fun _ => True) (fun _ => False) rfl rfl ?aP (fun _ hk => hk.elim) ?aF ?aO ?aB ?aS ?aL ?_; (case aP => exact k54_mkM _ _ _ (⟨t137, t140⟩ : S54)); (case aB => exact (bp HB.out)); (case aF => exact (fun _ _ => trivial)); (case aO => exact (kr HO_4.out)); (case aS => exact (below_size (bp HB.out))); (case aL => have := LMc17.out; omega); intro v142 w19 ho hb hg hat; rw [← Ny141.out] at ho; have n_ := zn3 (Aside0.mk (Kd.R_over' (kr HO_5.out) (Kd.R_typed (kr HO_4.out)) (by decide) hg)) (Aside0.mk (hb)) (Aside0.mk (ho)); clear HO_5 HB HO_4; obtain ⟨HO_5, HB, HO143⟩ := n_; clear ho hb hg hat))); go_roundg kj5; (case measure => have := HK1.out; have := HJ5.out; omega); case rel => exact ⟨(y141), (wrap64 (x6_1 + 1)), zfe, H', ⟨by have := HK1.out; have := HJ5.out; omega⟩, ⟨by (with_reducible repeat (first | apply Kd.R_alloc | apply Kd.R_drewN | apply Kd.R_drew)); exact HO143.out⟩, ⟨by (with_reducible repeat (first | apply Kd.R_alloc | apply Kd.R_drewN | apply Kd.R_drew)); exact HO_5.out⟩, ⟨bp HB.out⟩⟩
        ·rw [if_neg c17] at H; exact absurd H (by simp)
       ·rw [if_neg c14] at H; exact absurd H (by simp)
      ·rw [if_neg c13] at H; exact absurd H (by simp)
     ·replace c12 := Bool.eq_false_iff.mpr c12; subst c12; rw [if_neg zft] at H; obtain ⟨t144, A20, H⟩ := zbd H; (try dsimp only at H); have HC21 := Aside0.mk H; clear H; obtain ⟨Ao22, co22, eo22⟩ := Kd.R_slice HO_4.out; subst eo22; (go_upto_if 46 with (first | ((with_reducible refine gate_callee (f := 26) rfl ?_); refine goesL_ (some 44) rfl rfl Tryd.func26 (by kernel_rfl) rfl #[.slice Ao22 x4_1.length co22] rfl (by (try simp only [List.map_toArray, List.map_cons, List.map_nil]); first | done | rfl | (simp only [List.length_drop, List.length_take]; rfl)) ?_; (with_reducible refine (spec_PairsText.calls kj5 _ _ x4_1 t144 _ ?side1 ?side2 A20.out).mono ?_); (case side1 => repeat (first | exact (Kd.R_reads' HO_4.out).2.2 | (with_reducible refine Kd.C_alloc ?_ _) | (with_reducible refine Kd.C_drewN ?_ _) | (with_reducible refine Kd.C_drew ?_))); (case side2 => exact (Kd.R_reads' HO_4.out).2.1); rintro e w23 ⟨rfl, hb⟩; refine ⟨_, rfl, ?_⟩; have n_ := zn3 (Aside0.mk (Kd.R_below (kr HO_4.out) hb)) (Aside0.mk (Kd.R_below (kr HO_5.out) hb)) (an0 HB hb); clear HO_4 HO_5 HB; obtain ⟨HO_4, HO_5, HB⟩ := n_; (try clear hb); (try clear hb2); (try clear hk); (try clear hi); (try clear hgw)))); (try simp only [Act.put, List.setIfInBounds_toArray, List.set_cons_zero, List.set_cons_succ]); have H := HC21.out; clear HC21; by_cases c24 : t144.toList = a0.toList
      ·rw [if_pos c24] at H; have c24b0 : (t144.toList == a0.toList) = true := beq_iff_eq.mpr c24; have c24b1 : (t144.toList != a0.toList) = false := bne_eq_false_iff_eq.mpr c24; clear c24; (first | rw [c24b0] | (simp only [i64_w, i32_w]; rw [c24b0]) | skip); simp only [Option.some.injEq, Prod.mk.injEq] at H; obtain ⟨rfl, rfl⟩ := H; go_wp2; go_ret2; exact ⟨_, fe, by (with_reducible repeat (first | apply Kd.R_alloc | apply Kd.R_drewN | apply Kd.R_drew)); exact HO_4.out, bp HB.out⟩
      ·rw [if_neg c24] at H; have c24b0 : (t144.toList == a0.toList) = false := beq_eq_false_iff_ne.mpr c24; have c24b1 : (t144.toList != a0.toList) = true := bne_iff_ne.mpr c24; (first | rw [c24b0] | (simp only [i64_w, i32_w]; rw [c24b0]) | skip); obtain ⟨y145, hy145⟩ : ∃ y_ : List (S54), y_ = (([] : List (S54))) := ⟨_, rfl⟩; (replace H : (some (y145, false)) = some (r1, r2) := zsy H hy145); have Ny145 := Aside0.mk hy145; clear hy145; simp only [Option.some.injEq, Prod.mk.injEq] at H; obtain ⟨rfl, rfl⟩ := H; (go_wp2_with (first | ((with_reducible refine gate_dst (N := 47) rfl ?_); refine Kd.R_lit k54 _ 54 ?hg (N := 47) ?hd (xs := ([] : List (S54))) (inner := []) (ok := fun _ => True) (okp := fun _ => True) ?hr ?hp (fun _ hk => hk) trivial (Below.refl _ _) (Nat.le_refl _) (by simp) ?_; (case hd => rfl); (case hg => rfl); (case hr => first | (go_simp; done) | (go_simp; rfl)); (case hp => exact (Reps.none _ _)); intro v146 w25 ho26 hb hg_ hnew_; clear hg_ hnew_; (first | rw [← Ny145.out] at ho26 | (simp only [Int.reduceToNat] at ho26; rw [← Ny145.out] at ho26)); have n_ := zn4 (Aside0.mk (Kd.R_elder' (kr HO_4.out) (Kd.R_base ho26) hb)) (Aside0.mk (Kd.R_below (kr HO_5.out) hb)) (Aside0.mk (Kd.R_lower (Kd.R_new' ho26 (Kd.R_lt (kr HO_4.out))) (below_size (bp HB.out)))) (an0 HB hb); clear HO_4 HO_5 HB; obtain ⟨HO_4, HO_5, HO147, HB⟩ := n_; clear hb ho26))); go_ret2; exact ⟨_, fe, by (with_reducible repeat (first | apply Kd.R_alloc | apply Kd.R_drewN | apply Kd.R_drew)); exact Kd.R_mono HO147.out (fun _ hk => trivial), bp HB.out⟩
/-! ### strings_Split: function 27 -/
def strings_Split.f (a0 a1 : ByteArray) : Option (List ByteArray) := if a0.size < 4294967281 ∧ 1 ≤ a1.size then some (Lib.splitB a1 0 (Lib.countB a0 a1) a0) else none
theorem strings_Split.calls (a0 : ByteArray) (a1 : ByteArray) (r : List ByteArray) (w : World) (h : strings_Split.f a0 a1 = some r) (HTAB : Txts w := by first | exact HTAB | exact HTAB.below HB.out | exact HTAB.below (bp HB.out)) :
    Calls Tryd.prog 27 #[.string a0, .string a1] w fun e w' => ∃ v0_ : Value, e = .returned (v0_) ∧ Kd.R Kd.string 9 w' w.heap.size (fun _ => True) v0_ r ∧ Below w.heap.size w w' := by
  unfold strings_Split.f at h
  split at h
  · next hh =>
    obtain rfl := Option.some.inj h
    obtain ⟨m, hm⟩ := HTAB.2.1
    have hl := Lib.splitB_all a1 hh.2 0 _ a0 rfl
    have hc := Lib.countB_le a1 hh.2 a0.size a0 (Nat.le_refl _)
    refine (Tryd.strings_Split a0 a1 m w hh.1 hm hh.2).mono fun e w' ⟨he, hw⟩ => ⟨_, he, ?_, ?_⟩
    · rw [hw, ← hl]
      exact split_row w _ (by omega)
    · rw [hw]
      exact (Below.refl _ _).alloc (Nat.le_refl _) _
  · cases h

/-! ### strings_Cut: function 28 -/
def strings_Cut.f (a0 a1 : ByteArray) : Option (ByteArray × ByteArray × Bool) := if a0.size < 4294967281 then some (⟨(Lib.cut a0.data.toList a1.data.toList).1.toArray⟩, ⟨(Lib.cut a0.data.toList a1.data.toList).2.1.toArray⟩, (Lib.cut a0.data.toList a1.data.toList).2.2) else none
theorem strings_Cut.calls (a0 : ByteArray) (a1 : ByteArray) (r1 : ByteArray) (r2 : ByteArray) (r3 : Bool) (w : World) (h : strings_Cut.f a0 a1 = some (r1, r2, r3)) (HTAB : Txts w := by first | exact HTAB | exact HTAB.below HB.out | exact HTAB.below (bp HB.out)) :
    Calls Tryd.prog 28 #[.string a0, .string a1] w fun e w' => e = .returned (.tuple #[.string r1, .string r2, .bool r3]) ∧ Below w.heap.size w w' := by
  unfold strings_Cut.f at h
  split at h
  · next hh =>
    obtain ⟨rfl, rfl, rfl⟩ : _ ∧ _ ∧ _ := by simpa using h
    obtain ⟨m, hm⟩ := HTAB.2.1
    exact (Tryd.strings_Cut a0 a1 m w hh hm).mono fun e w' ⟨he, n, hw⟩ => ⟨he, hw ▸ ⟨rfl, rfl, rfl, Nat.le_refl _, fun _ _ => rfl⟩⟩
  · cases h

/-! ### impl_numberOf: function 29 -/
def numOr : Lib.NumEnd Int → Int
  | .ok v => v
  | _ => -2
def impl_numberOf.f (a0 : ByteArray) : Option (Int) := if a0.size ≤ 281474976710656 then some (numOr (Lib.atoiAll a0.data.toList)) else none
theorem impl_numberOf.calls (a0 : ByteArray) (r : Int) (w : World) (h : impl_numberOf.f a0 = some r) (HTAB : Txts w := by first | exact HTAB | exact HTAB.below HB.out | exact HTAB.below (bp HB.out)) :
    Calls Tryd.prog 29 #[.string a0] w fun e w' => e = .returned (.int .i64 r) ∧ Below w.heap.size w w' := by
  unfold impl_numberOf.f at h
  split at h
  · next hl =>
    obtain rfl := Option.some.inj h
    obtain ⟨_, _, ⟨tp, p, hp⟩, ⟨tq, q, hq⟩⟩ := HTAB
    cases hc : Lib.atoiAll a0.data.toList with
    | ok v =>
      go_enter Tryd.func29, Tryd.ntmps29
      go_wp2_with (go_at_call 49; refine (Tryd.strconv_Atoi_ok a0 (by omega) v hc _).mono ?_; rintro e w' ⟨rfl, hw⟩)
      go_ret
      refine ⟨rfl, ?_⟩
      rcases hw with rfl | ⟨t, rfl⟩
      · exact Below.refl _ _
      · exact Lib.bytesWorld_below _ _ _
    | «syntax» =>
      go_enter Tryd.func29, Tryd.ntmps29
      go_wp2_with (go_at_call 49; refine (Tryd.strconv_Atoi_syntax_var a0 hl hc tp p _ hp).mono ?_; rintro e W1 ⟨N, rfl, -, -, hb⟩)
      go_ret
      exact ⟨rfl, hb⟩
    | range =>
      go_enter Tryd.func29, Tryd.ntmps29
      go_wp2_with (go_at_call 49; refine (Tryd.strconv_Atoi_range_var a0 hl hc tq q _ hq).mono ?_; rintro e W1 ⟨N, rfl, -, -, hb⟩)
      go_ret
      exact ⟨rfl, hb⟩
  · cases h

/-! ### impl_lettersOnly: function 68 -/
def impl_lettersOnly.f : Nat → ByteArray → Option (Bool)
  | 0, _ => none
  | k + 1, a0 => if a0.toList = ([] : List UInt8) then (some true) else (if 0 < (a0.size : Int) then (if (bt a0 0) ≥ 97 then (if (bt a0 0) ≤ 122 then (if 1 ≤ (a0.size : Int) then ((impl_lettersOnly.f k (a0.extract 1 a0.size)).bind fun t151 => (some t151)) else (none)) else (some false)) else (some false)) else (none))
theorem impl_lettersOnly.mono_l : ∀ k, (∀ y0, LeO (impl_lettersOnly.f k y0) (impl_lettersOnly.f (k + 1) y0))
  | 0 => fun _ r h => by simp [impl_lettersOnly.f] at h
  | k + 1 => by
    have ih0 := impl_lettersOnly.mono_l k
    · intro y0
      unfold impl_lettersOnly.f
      repeat' with_reducible first | exact ih0 _ | exact LeO.refl _ | exact LeO.none _ | refine LeO.ite ?_ ?_ | refine LeO.bind ?_ (fun _ => ?_)
theorem impl_lettersOnly.mono : ∀ a0 k, LeO (impl_lettersOnly.f k a0) (impl_lettersOnly.f (k + 1) a0) := by
 intro a0 k; have ih0 := impl_lettersOnly.mono_l k; exact ih0 a0
set_option maxHeartbeats 8000000 in
set_option maxRecDepth 100000 in
theorem impl_lettersOnly.calls (k : Nat) : ∀ (a0 : ByteArray) (r : Bool) (w : World) (h : impl_lettersOnly.f k a0 = some r),
    Calls Tryd.prog 68 #[.string a0] w fun e w' => e = .returned (.bool r) ∧ Drawn0 w w' := by
 induction k using Nat.strongRecOn with
 | _ k ih =>
 intro a0 r w h
 cases k with
 | zero => exact absurd h (by simp [impl_lettersOnly.f])
 | succ k =>
 simp only [impl_lettersOnly.f] at h; have H : (if a0.toList = ([] : List UInt8) then (some true) else (if 0 < (a0.size : Int) then (if (bt a0 0) ≥ 97 then (if (bt a0 0) ≤ 122 then (if 1 ≤ (a0.size : Int) then ((impl_lettersOnly.f k (a0.extract 1 a0.size)).bind fun t151 => (some t151)) else (none)) else (some false)) else (some false)) else (none))) = some r := h; clear h; by_cases c2 : a0.toList = ([] : List UInt8)
 ·rw [if_pos c2] at H; have c2b0 : (a0.toList == ([] : List UInt8)) = true := beq_iff_eq.mpr c2; have c2b1 : (a0.toList != ([] : List UInt8)) = false := bne_eq_false_iff_eq.mpr c2; clear c2; obtain rfl := Option.some.inj H; go_enter Tryd.func68, Tryd.ntmps68; go_wp2; go_ret; exact ⟨zfe, zdr⟩
 ·rw [if_neg c2] at H; have c2b0 : (a0.toList == ([] : List UInt8)) = false := beq_eq_false_iff_ne.mpr c2; have c2b1 : (a0.toList != ([] : List UInt8)) = true := bne_iff_ne.mpr c2; by_cases c3 : 0 < (a0.size : Int)
  ·rw [if_pos c3] at H; have c3b0 : decide (0 < (a0.size : Int)) = true := decide_eq_true c3; (have c3b1 : decide (0 < a0.size) = true := decide_eq_true (by omega)); clear c3; by_cases c5 : (bt a0 0) ≥ 97
   ·rw [if_pos c5] at H; have c5b0 : decide (97 ≤ (bt a0 0)) = true := decide_eq_true c5; clear c5; by_cases c7 : (bt a0 0) ≤ 122
    ·rw [if_pos c7] at H; have c7b0 : decide ((bt a0 0) ≤ 122) = true := decide_eq_true c7; clear c7; by_cases c8 : 1 ≤ (a0.size : Int)
     ·rw [if_pos c8] at H; have c8b0 := eq_true c8; have c8b1 : decide (1 ≤ (a0.size : Int)) = true := decide_eq_true c8; clear c8; obtain ⟨t151, A9, H⟩ := zbd H; (try dsimp only at H); obtain rfl := Option.some.inj H; (have p4 : 0 ≤ (0 : Int) := (by omega)); (have q4 : 0 < a0.size := (by have : (0 : Int) < (a0.size : Int) := zda; omega)); have hx4 : ∀ h : 0 < a0.size, ((a0[0]'h).toNat : Int) = bt a0 0 := bt_at a0 0; clear p4; have qi4 : (0 < (a0.size : Int)) = True := eq_true (zda); replace q4 := eq_true q4; (have p6 : 0 ≤ (0 : Int) := (by omega)); (have q6 : 0 < a0.size := (by have : (0 : Int) < (a0.size : Int) := zda; omega)); have hx6 : ∀ h : 0 < a0.size, ((a0[0]'h).toNat : Int) = bt a0 0 := bt_at a0 0; clear p6; have qi6 : (0 < (a0.size : Int)) = True := eq_true (zda); replace q6 := eq_true q6; go_enter Tryd.func68, Tryd.ntmps68; (go_wp2_with (first | (go_at_call 68; (with_reducible refine (ih k (by omega) (a0.extract 1 a0.size) t151 _ A9.out).mono ?_); rintro e w' ⟨rfl, ⟨nd, rfl⟩⟩))); go_ret; exact ⟨zfe, zdr⟩
     ·rw [if_neg c8] at H; exact absurd H (by simp)
    ·rw [if_neg c7] at H; have c7b0 : decide ((bt a0 0) ≤ 122) = false := decide_eq_false c7; clear c7; obtain rfl := Option.some.inj H; (have p4 : 0 ≤ (0 : Int) := (by omega)); (have q4 : 0 < a0.size := (by have : (0 : Int) < (a0.size : Int) := zda; omega)); have hx4 : ∀ h : 0 < a0.size, ((a0[0]'h).toNat : Int) = bt a0 0 := bt_at a0 0; clear p4; have qi4 : (0 < (a0.size : Int)) = True := eq_true (zda); replace q4 := eq_true q4; (have p6 : 0 ≤ (0 : Int) := (by omega)); (have q6 : 0 < a0.size := (by have : (0 : Int) < (a0.size : Int) := zda; omega)); have hx6 : ∀ h : 0 < a0.size, ((a0[0]'h).toNat : Int) = bt a0 0 := bt_at a0 0; clear p6; have qi6 : (0 < (a0.size : Int)) = True := eq_true (zda); replace q6 := eq_true q6; go_enter Tryd.func68, Tryd.ntmps68; go_wp2; go_ret; exact ⟨zfe, zdr⟩
   ·rw [if_neg c5] at H; have c5b0 : decide (97 ≤ (bt a0 0)) = false := decide_eq_false c5; clear c5; obtain rfl := Option.some.inj H; (have p4 : 0 ≤ (0 : Int) := (by omega)); (have q4 : 0 < a0.size := (by have : (0 : Int) < (a0.size : Int) := zda; omega)); have hx4 : ∀ h : 0 < a0.size, ((a0[0]'h).toNat : Int) = bt a0 0 := bt_at a0 0; clear p4; have qi4 : (0 < (a0.size : Int)) = True := eq_true (zda); replace q4 := eq_true q4; go_enter Tryd.func68, Tryd.ntmps68; go_wp2; go_ret; exact ⟨zfe, zdr⟩
  ·rw [if_neg c3] at H; exact absurd H (by simp)
/-! ### impl_KeyValid: function 50 -/
def impl_KeyValid.f (k : Nat) (a0 : ByteArray) : Option (Bool) := if (a0.size : Int) < 1 then (some false) else (if (a0.size : Int) > 4 then (some false) else ((impl_lettersOnly.f k a0).bind fun t152 => (some t152)))
theorem impl_KeyValid.mono : ∀ a0 k, LeO (impl_KeyValid.f k a0) (impl_KeyValid.f (k + 1) a0) := by
 intro a0 k; unfold impl_KeyValid.f; repeat' with_reducible first | exact impl_lettersOnly.mono .. | exact LeO.refl _ | exact LeO.none _ | refine LeO.ite ?_ ?_ | refine LeO.bind ?_ (fun _ => ?_)
set_option maxHeartbeats 8000000 in
set_option maxRecDepth 100000 in
theorem impl_KeyValid.calls (k : Nat) (a0 : ByteArray) (r : Bool) (w : World) (h : impl_KeyValid.f k a0 = some r) :
    Calls Tryd.prog 50 #[.string a0] w fun e w' => e = .returned (.bool r) ∧ Drawn0 w w' := by
 unfold impl_KeyValid.f at h; have H := h; clear h; by_cases c2 : (a0.size : Int) < 1
 ·rw [if_pos c2] at H; have c2b0 : decide ((a0.size : Int) < 1) = true := decide_eq_true c2; (have c2b1 : decide (a0.size < 1) = true := decide_eq_true (by omega)); clear c2; obtain rfl := Option.some.inj H; go_enter Tryd.func50, Tryd.ntmps50; go_wp2; go_ret; exact ⟨zfe, zdr⟩
 ·rw [if_neg c2] at H; have c2b0 : decide ((a0.size : Int) < 1) = false := decide_eq_false c2; (have c2b1 : decide (a0.size < 1) = false := decide_eq_false (by omega)); clear c2; by_cases c3 : (a0.size : Int) > 4
  ·rw [if_pos c3] at H; have c3b0 : decide (4 < (a0.size : Int)) = true := decide_eq_true c3; (have c3b1 : decide (4 < a0.size) = true := decide_eq_true (by omega)); clear c3; obtain rfl := Option.some.inj H; go_enter Tryd.func50, Tryd.ntmps50; go_wp2; go_ret; exact ⟨zfe, zdr⟩
  ·rw [if_neg c3] at H; have c3b0 : decide (4 < (a0.size : Int)) = false := decide_eq_false c3; (have c3b1 : decide (4 < a0.size) = false := decide_eq_false (by omega)); clear c3; obtain ⟨t152, A4, H⟩ := zbd H; (try dsimp only at H); obtain rfl := Option.some.inj H; go_enter Tryd.func50, Tryd.ntmps50; (go_wp2_with (first | ((with_reducible refine gate_callee (f := 68) rfl ?_); refine goesL_ (some 12) rfl rfl Tryd.func68 (by kernel_rfl) rfl #[.string a0] rfl (by (try simp only [List.map_toArray, List.map_cons, List.map_nil]); first | done | rfl | (simp only [List.length_drop, List.length_take]; rfl)) ?_; (with_reducible refine (impl_lettersOnly.calls k a0 t152 _ A4.out).mono ?_); rintro e w' ⟨rfl, ⟨nd, rfl⟩⟩; refine ⟨_, rfl, ?_⟩))); go_ret; exact ⟨zfe, zdr⟩
/-! ### impl_valueValid: function 51 -/
def impl_valueValid.f (a0 : Int) : Option (Bool) := if a0 ≥ 0 then (some (decide (a0 ≤ 999))) else (some false)
set_option maxHeartbeats 8000000 in
set_option maxRecDepth 100000 in
theorem impl_valueValid.calls (a0 : Int) (r : Bool) (w : World) (h : impl_valueValid.f a0 = some r) :
    Calls Tryd.prog 51 #[.int .i64 a0] w fun e w' => e = .returned (.bool r) ∧ Drawn0 w w' := by
 unfold impl_valueValid.f at h; have H := h; clear h; by_cases c2 : a0 ≥ 0
 ·rw [if_pos c2] at H; have c2b0 : decide (0 ≤ a0) = true := decide_eq_true c2; clear c2; obtain rfl := Option.some.inj H; go_enter Tryd.func51, Tryd.ntmps51; go_wp2; go_ret; exact ⟨zfe, zdr⟩
 ·rw [if_neg c2] at H; have c2b0 : decide (0 ≤ a0) = false := decide_eq_false c2; clear c2; obtain rfl := Option.some.inj H; go_enter Tryd.func51, Tryd.ntmps51; go_wp2; go_ret; exact ⟨zfe, zdr⟩
/-! ### impl_PairsValid: function 30 -/
mutual
def impl_PairsValid.l0 : Nat → List (S54) → List (S54) → Int → Int → Option (Bool)
  | 0, _, _, _, _ => none
  | k + 1, a, b, c, d => if d < c then (if 0 ≤ d then (if d < (b.length : Int) then ((impl_KeyValid.f k ((rd_T54 b d).f0)).bind fun t155 => (if t155 = true then ((impl_valueValid.f ((rd_T54 b d).f1)).bind fun t156 => (impl_PairsValid.j1 k a d b c d (!t156) ((rd_T54 b d).f0) ((rd_T54 b d).f1))) else (impl_PairsValid.j1 k a d b c d true ((rd_T54 b d).f0) ((rd_T54 b d).f1)))) else (none)) else (none)) else (some true)
def impl_PairsValid.j1 : Nat → List (S54) → Int → List (S54) → Int → Int → Bool → ByteArray → Int → Option (Bool)
  | 0, _, _, _, _, _, _, _, _ => none
  | k + 1, a, b, c, d, e, f, g, i => if f = true then (some false) else (if b > 0 then (if 0 ≤ (wrap64 (b - 1)) then (if (wrap64 (b - 1)) < (a.length : Int) then (if ((Op.bytesLess (((rd_T54 a (wrap64 (b - 1))).f0).toList) g.toList) = true) then (impl_PairsValid.l0 k a c d (wrap64 (e + 1))) else (some false)) else (none)) else (none)) else (impl_PairsValid.l0 k a c d (wrap64 (e + 1))))
end
def impl_PairsValid.f (k : Nat) (l0 : List (S54)) : Option (Bool) := if (l0.length : Int) > 48 then (some false) else (impl_PairsValid.l0 k l0 l0 (l0.length : Int) 0)
theorem impl_PairsValid.mono_l : ∀ k, (∀ y0 y1 y2 y3, LeO (impl_PairsValid.l0 k y0 y1 y2 y3) (impl_PairsValid.l0 (k + 1) y0 y1 y2 y3)) ∧ (∀ y0 y1 y2 y3 y4 y5 y6 y7, LeO (impl_PairsValid.j1 k y0 y1 y2 y3 y4 y5 y6 y7) (impl_PairsValid.j1 (k + 1) y0 y1 y2 y3 y4 y5 y6 y7))
  | 0 => ⟨fun _ _ _ _ r h => by simp [impl_PairsValid.l0] at h, fun _ _ _ _ _ _ _ _ r h => by simp [impl_PairsValid.j1] at h⟩
  | k + 1 => by
    obtain ⟨ih0, ih1⟩ := impl_PairsValid.mono_l k
    refine ⟨?_, ?_⟩
    · intro y0 y1 y2 y3
      unfold impl_PairsValid.l0
      repeat' with_reducible first | exact ih0 _ _ _ _ | exact ih1 .. | exact impl_KeyValid.mono .. | exact LeO.refl _ | exact LeO.none _ | refine LeO.ite ?_ ?_ | refine LeO.bind ?_ (fun _ => ?_)
    · intro y0 y1 y2 y3 y4 y5 y6 y7
      unfold impl_PairsValid.j1
      repeat' with_reducible first | exact ih0 _ _ _ _ | exact ih1 .. | exact impl_KeyValid.mono .. | exact LeO.refl _ | exact LeO.none _ | refine LeO.ite ?_ ?_ | refine LeO.bind ?_ (fun _ => ?_)
theorem impl_PairsValid.mono : ∀ a0 k, LeO (impl_PairsValid.f k a0) (impl_PairsValid.f (k + 1) a0) := by
 intro a0 k; obtain ⟨ih0, ih1⟩ := impl_PairsValid.mono_l k; unfold impl_PairsValid.f; repeat' with_reducible first | exact ih0 _ _ _ _ | exact ih1 .. | exact impl_KeyValid.mono .. | exact LeO.refl _ | exact LeO.none _ | refine LeO.ite ?_ ?_ | refine LeO.bind ?_ (fun _ => ?_)
set_option maxHeartbeats 8000000 in
set_option maxRecDepth 100000 in
theorem impl_PairsValid.calls (k : Nat) (A0 : Option Addr) (c0 : Nat) (l0 : List (S54)) (r : Bool) (w : World) (hr0 : Kd.C k54 w A0 l0.length l0) (hc0 : l0.length ≤ c0) (h : impl_PairsValid.f k l0 = some r) :
    Calls Tryd.prog 30 #[.slice A0 l0.length c0] w fun e w' => e = .returned (.bool r) ∧ Below w.heap.size w w' := by
 have hu54 := Tryd.underlying54; have HR0 := Aside0.mk hr0; have HC0 := Aside0.mk hc0; clear hr0 hc0; have HB := Aside0.mk (Below.refl w.heap.size w); unfold impl_PairsValid.f at h; have H := h; clear h; by_cases c2 : (l0.length : Int) > 48
 ·rw [if_pos c2] at H; have c2b0 : decide (48 < (l0.length : Int)) = true := decide_eq_true c2; (have c2b1 : decide (48 < l0.length) = true := decide_eq_true (by omega)); clear c2; obtain rfl := Option.some.inj H; go_enter Tryd.func30, Tryd.ntmps30; go_wp2; (repeat (go_quiet (fail); try go_wp2)); go_ret; exact ⟨fe, bp HB.out⟩
 ·rw [if_neg c2] at H; have c2b0 : decide (48 < (l0.length : Int)) = false := decide_eq_false c2; (have c2b1 : decide (48 < l0.length) = false := decide_eq_false (by omega)); clear c2; have H' := Aside0.mk H; clear H; go_enter Tryd.func30, Tryd.ntmps30; go_wp2; (repeat (go_quiet (fail); try go_wp2)); go_loopg [10] k (fun kq v10 w' => ∃ (x10_1 : Int), v10 = .int .i64 x10_1 ∧ Aside0 (impl_PairsValid.l0 kq l0 l0 (l0.length : Int) x10_1 = some r) ∧ Aside0 (kq ≤ k) ∧ Aside0 (Below w.heap.size w w')); case atStart => exact ⟨(0), zfe, H', ⟨Nat.le_refl _⟩, ⟨bp HB.out⟩⟩
  case round =>
   clear H'; (try clear c2); (try clear c2b0); (try clear c2b1); (try clear p2); obtain ⟨x10_1, rfl, HA, HK1, HB⟩ := hrel
   cases gk with
   | zero => exact absurd HA.out (by simp [impl_PairsValid.l0])
   | succ k1 =>
    have H := HA.out; clear HA; simp only [impl_PairsValid.l0] at H; by_cases c3 : x10_1 < (l0.length : Int)
    ·rw [if_pos c3] at H; have c3b0 : decide (x10_1 < (l0.length : Int)) = true := decide_eq_true c3; clear c3; by_cases c4 : 0 ≤ x10_1
     ·rw [if_pos c4] at H; have c4b0 : decide (0 ≤ x10_1) = true := decide_eq_true c4; clear c4; by_cases c5 : x10_1 < (l0.length : Int)
      ·rw [if_pos c5] at H; have c5b0 : decide (x10_1 < (l0.length : Int)) = true := decide_eq_true c5; clear c5; have HC6 := Aside0.mk H; clear H; have p153 : 0 ≤ (x10_1 : Int) := zda; have q153 : x10_1 < (l0.length : Int) := zda; obtain ⟨ad153, e153, hx153_0, hx153_1⟩ := at_T54 HR0.out x10_1 p153 q153; cases e153; replace hx153_0 := hcx HB hx153_0; replace hx153_1 := hcx HB hx153_1; replace p153 := eq_true p153; replace q153 := eq_true q153; (go_upto_region 6 with (first | ((with_reducible refine gate_dst (N := 4) rfl ?_); refine bxe (N := 4) (cs := #[.string (⟨#[]⟩ : ByteArray), .int .i64 0]) (t := 54) ?_; intro gb154 hg w7 hbox hb; have BK154 := Aside0.mk (hbox); have GW154 := an2 HB hg; have GE154 := an2 HB hg; replace HB := an0 HB hb; clear hb hbox hg; obtain ⟨z8a, z8b, f8a, f8b⟩ := cl2 BK154))); (repeat (go_quiet (first | ((with_reducible refine gate_dst (N := 4) rfl ?_); refine bxe (N := 4) (cs := #[.string (⟨#[]⟩ : ByteArray), .int .i64 0]) (t := 54) ?_; intro gb154 hg w7 hbox hb; have BK154 := Aside0.mk (hbox); have GW154 := an2 HB hg; have GE154 := an2 HB hg; replace HB := an0 HB hb; clear hb hbox hg; obtain ⟨z8a, z8b, f8a, f8b⟩ := cl2 BK154)); go_upto_region 6 with (first | ((with_reducible refine gate_dst (N := 4) rfl ?_); refine bxe (N := 4) (cs := #[.string (⟨#[]⟩ : ByteArray), .int .i64 0]) (t := 54) ?_; intro gb154 hg w7 hbox hb; have BK154 := Aside0.mk (hbox); have GW154 := an2 HB hg; have GE154 := an2 HB hg; replace HB := an0 HB hb; clear hb hbox hg; obtain ⟨z8a, z8b, f8a, f8b⟩ := cl2 BK154)))); (try simp only [Act.put, List.setIfInBounds_toArray, List.set_cons_zero, List.set_cons_succ]); go_cut [24] (fun v24 wc => ∃ (kq : Nat) (x24_5 : Bool), v24 = .bool x24_5 ∧ Aside0 (impl_PairsValid.j1 kq l0 x10_1 l0 (l0.length : Int) x10_1 x24_5 ((rd_T54 l0 x10_1).f0) ((rd_T54 l0 x10_1).f1) = some r) ∧ Aside0 (kq ≤ k1) ∧ Aside0 (wc.heap[gb154]? = some (.cells #[.string ((rd_T54 l0 x10_1).f0), .int .i64 ((rd_T54 l0 x10_1).f1)] 54 (0, 0))) ∧ Aside0 (Below w.heap.size w wc))
       case first =>
        have H := HC6.out; clear HC6; obtain ⟨t155, A9, H⟩ := zbd H; (try dsimp only at H); by_cases c10 : t155 = true
        ·subst c10; rw [if_pos rfl] at H; obtain ⟨t156, A11, H⟩ := zbd H; (try dsimp only at H); have H' := Aside0.mk H; clear H; obtain ⟨z12a, z12b, f12a, f12b⟩ := cl2 BK154; (go_wp2_with (first | (go_at_call 50; (with_reducible refine (impl_KeyValid.calls k1 ((rd_T54 l0 x10_1).f0) true _ A9.out).mono ?_); rintro e w' ⟨rfl, ⟨nd, rfl⟩⟩; (try exact zdd)) | (go_at_call 51; (with_reducible refine (impl_valueValid.calls ((rd_T54 l0 x10_1).f1) t156 _ A11.out).mono ?_); rintro e w' ⟨rfl, ⟨nd, rfl⟩⟩; (try exact zdd)))); (repeat (go_quiet (first | (go_at_call 50; (with_reducible refine (impl_KeyValid.calls k1 ((rd_T54 l0 x10_1).f0) true _ A9.out).mono ?_); rintro e w' ⟨rfl, ⟨nd, rfl⟩⟩; (try exact zdd)) | (go_at_call 51; (with_reducible refine (impl_valueValid.calls ((rd_T54 l0 x10_1).f1) t156 _ A11.out).mono ?_); rintro e w' ⟨rfl, ⟨nd, rfl⟩⟩; (try exact zdd))); try go_wp2_with (first | (go_at_call 50; (with_reducible refine (impl_KeyValid.calls k1 ((rd_T54 l0 x10_1).f0) true _ A9.out).mono ?_); rintro e w' ⟨rfl, ⟨nd, rfl⟩⟩; (try exact zdd)) | (go_at_call 51; (with_reducible refine (impl_valueValid.calls ((rd_T54 l0 x10_1).f1) t156 _ A11.out).mono ?_); rintro e w' ⟨rfl, ⟨nd, rfl⟩⟩; (try exact zdd))))); go_meet; case rel => exact ⟨_, (!t156), zfe, H', ⟨by have := HK1.out; first | omega | exact Nat.le_refl _⟩, ⟨by exact zb0 BK154.out⟩, ⟨bp HB.out⟩⟩
        ·replace c10 := Bool.eq_false_iff.mpr c10; subst c10; rw [if_neg zft] at H; have H' := Aside0.mk H; clear H; obtain ⟨z13a, z13b, f13a, f13b⟩ := cl2 BK154; (go_wp2_with (first | (go_at_call 50; (with_reducible refine (impl_KeyValid.calls k1 ((rd_T54 l0 x10_1).f0) false _ A9.out).mono ?_); rintro e w' ⟨rfl, ⟨nd, rfl⟩⟩; (try exact zdd)))); (repeat (go_quiet (first | (go_at_call 50; (with_reducible refine (impl_KeyValid.calls k1 ((rd_T54 l0 x10_1).f0) false _ A9.out).mono ?_); rintro e w' ⟨rfl, ⟨nd, rfl⟩⟩; (try exact zdd))); try go_wp2_with (first | (go_at_call 50; (with_reducible refine (impl_KeyValid.calls k1 ((rd_T54 l0 x10_1).f0) false _ A9.out).mono ?_); rintro e w' ⟨rfl, ⟨nd, rfl⟩⟩; (try exact zdd))))); go_meet; case rel => exact ⟨_, (true), zfe, H', ⟨by have := HK1.out; first | omega | exact Nat.le_refl _⟩, ⟨by exact zb0 BK154.out⟩, ⟨bp HB.out⟩⟩
       case rest =>
        clear HC6; (try clear c2); (try clear c2b0); (try clear c2b1); (try clear c3); (try clear c3b0); (try clear c4); (try clear c4b0); (try clear c5); (try clear c5b0); (try clear z8a); (try clear z8b); (try clear f8a); (try clear f8b); (try clear hx153_0); (try clear hx153_1); (try clear p153); (try clear q153); obtain ⟨kq, x24_5, rfl, HA, HJ5, BK154, HB⟩ := hcut
        cases kq with
        | zero => exact absurd HA.out (by simp [impl_PairsValid.j1])
        | succ kj5 =>
         have H := HA.out; clear HA; simp only [impl_PairsValid.j1] at H; by_cases c14 : x24_5 = true
         ·subst c14; rw [if_pos rfl] at H; obtain rfl := Option.some.inj H; go_wp2; (repeat (go_quiet (fail); try go_wp2)); go_ret; exact ⟨fe, bp HB.out⟩
         ·replace c14 := Bool.eq_false_iff.mpr c14; subst c14; rw [if_neg zft] at H; by_cases c15 : x10_1 > 0
          ·rw [if_pos c15] at H; have c15b0 : decide (0 < x10_1) = true := decide_eq_true c15; clear c15; obtain ⟨ji16, hji16⟩ : ∃ j_ : Int, (wrap64 (x10_1 - 1)) = j_ := ⟨_, rfl⟩; (replace H : (if 0 ≤ (ji16) then (if (ji16) < (l0.length : Int) then (if ((Op.bytesLess (((rd_T54 l0 (ji16)).f0).toList) ((rd_T54 l0 x10_1).f0).toList) = true) then (impl_PairsValid.l0 kj5 l0 l0 (l0.length : Int) (wrap64 (x10_1 + 1))) else (some false)) else (none)) else (none)) = some r := by first | (rw [hji16] at H; exact H) | (simp only [hji16] at H ⊢; exact H)); have hji16w : (IntKind.i64.wrap (x10_1 - 1)) = ji16 := (i64_w _).trans hji16; by_cases c17 : 0 ≤ (ji16)
           ·rw [if_pos c17] at H; have c17b0 : decide (0 ≤ (ji16)) = true := decide_eq_true c17; clear c17; by_cases c18 : (ji16) < (l0.length : Int)
            ·rw [if_pos c18] at H; have c18b0 : decide ((ji16) < (l0.length : Int)) = true := decide_eq_true c18; clear c18; by_cases c19 : ((Op.bytesLess (((rd_T54 l0 (ji16)).f0).toList) ((rd_T54 l0 x10_1).f0).toList) = true)
             ·rw [if_pos c19] at H; have c19b0 : (Op.bytesLess (((rd_T54 l0 (ji16)).f0).toList) ((rd_T54 l0 x10_1).f0).toList) = true := c19; clear c19; have H' := Aside0.mk H; clear H; have p157 : 0 ≤ ((ji16) : Int) := zda; have q157 : (ji16) < (l0.length : Int) := zda; obtain ⟨ad157, e157, hx157_0, hx157_1⟩ := at_T54 HR0.out (ji16) p157 q157; (obtain rfl : ad153 = ad157 := (by injection e157)); replace hx157_0 := hcx HB hx157_0; replace hx157_1 := hcx HB hx157_1; replace p157 := eq_true p157; replace q157 := eq_true q157; obtain ⟨z20a, z20b, f20a, f20b⟩ := cl2 BK154; go_wp2; (repeat (go_quiet (fail); try go_wp2)); go_roundg kj5; (case measure => have := HK1.out; have := HJ5.out; omega); case rel => exact ⟨(wrap64 (x10_1 + 1)), zfe, H', ⟨by have := HK1.out; have := HJ5.out; omega⟩, ⟨bp HB.out⟩⟩
             ·rw [if_neg c19] at H; (have c19b0 : (Op.bytesLess (((rd_T54 l0 (ji16)).f0).toList) ((rd_T54 l0 x10_1).f0).toList) = false := by simpa using c19); clear c19; obtain rfl := Option.some.inj H; have p157 : 0 ≤ ((ji16) : Int) := zda; have q157 : (ji16) < (l0.length : Int) := zda; obtain ⟨ad157, e157, hx157_0, hx157_1⟩ := at_T54 HR0.out (ji16) p157 q157; (obtain rfl : ad153 = ad157 := (by injection e157)); replace hx157_0 := hcx HB hx157_0; replace hx157_1 := hcx HB hx157_1; replace p157 := eq_true p157; replace q157 := eq_true q157; obtain ⟨z21a, z21b, f21a, f21b⟩ := cl2 BK154; go_wp2; (repeat (go_quiet (fail); try go_wp2)); go_ret; exact ⟨by first | rfl | (simp [errW_none, errW_some] <;> rfl) | (simp only [← hji16]; first | rfl | (simp [errW_none, errW_some] <;> rfl)) | (simp [*, errW_none, errW_some] <;> rfl) | (simp only [IntKind.wrap_u8, show ∀ n_ : Int, wrap64 (n_ % 256) = n_ % 256 from fun n_ => by unfold wrap64; omega]; rfl), bp HB.out⟩
            ·rw [if_neg c18] at H; exact absurd H (by simp)
           ·rw [if_neg c17] at H; exact absurd H (by simp)
          ·rw [if_neg c15] at H; have c15b0 : decide (0 < x10_1) = false := decide_eq_false c15; clear c15; have H' := Aside0.mk H; clear H; go_wp2; (repeat (go_quiet (fail); try go_wp2)); go_roundg kj5; (case measure => have := HK1.out; have := HJ5.out; omega); case rel => exact ⟨(wrap64 (x10_1 + 1)), zfe, H', ⟨by have := HK1.out; have := HJ5.out; omega⟩, ⟨bp HB.out⟩⟩
      ·rw [if_neg c5] at H; exact absurd H (by simp)
     ·rw [if_neg c4] at H; exact absurd H (by simp)
    ·rw [if_neg c3] at H; have c3b0 : decide (x10_1 < (l0.length : Int)) = false := decide_eq_false c3; clear c3; obtain rfl := Option.some.inj H; go_wp2; (repeat (go_quiet (fail); try go_wp2)); go_ret; exact ⟨fe, bp HB.out⟩
/-! ### strconv_Itoa: function 20 -/
def strconv_Itoa.f (a0 : Int) : Option (ByteArray) := if -9223372036854775808 ≤ a0 ∧ a0 ≤ 9223372036854775807 then some ⟨(Lib.itoa a0).toArray⟩ else none
theorem strconv_Itoa.calls (a0 : Int) (r : ByteArray) (w : World) (h : strconv_Itoa.f a0 = some r) (HTAB : Txts w := by first | exact HTAB | exact HTAB.below HB.out | exact HTAB.below (bp HB.out)) :
    Calls Tryd.prog 20 #[.int .i64 a0] w fun e w' => e = .returned (.string r) ∧ Below w.heap.size w w' := by
  unfold strconv_Itoa.f at h
  split at h
  · next hh =>
    obtain rfl := Option.some.inj h
    exact (Tryd.strconv_Itoa a0 hh.1 hh.2 w HTAB.tab).mono fun e w' ⟨he, k, os, hw⟩ => ⟨he, hw ▸ below_grow_drawn k os⟩
  · cases h

/-! ### strings_Join: function 21 -/
def strings_Join.f (l0 : List (ByteArray)) (a1 : ByteArray) : Option (ByteArray) := if l0.length ≤ 140737488355328 ∧ (Lib.join (l0.map (·.data.toList)) a1.data.toList).length ≤ 140737488355328 then some ⟨(Lib.join (l0.map (·.data.toList)) a1.data.toList).toArray⟩ else none
theorem strings_Join.calls (A0 : Option Addr) (c0 : Nat) (l0 : List (ByteArray)) (a1 : ByteArray) (r : ByteArray) (w : World) (hr0 : Kd.C Kd.string w A0 l0.length l0) (hc0 : l0.length ≤ c0) (h : strings_Join.f l0 a1 = some r) :
    Calls Tryd.prog 21 #[.slice A0 l0.length c0, .string a1] w fun e w' => e = .returned (.string r) ∧ Below w.heap.size w w' := by
  unfold strings_Join.f at h
  split at h
  · next hh =>
    obtain rfl := Option.some.inj h
    by_cases h0 : l0 = []
    · subst h0
      exact (Tryd.strings_Join_none A0 c0 a1 w).mono fun e w' ⟨he, hw⟩ => ⟨he, hw ▸ Below.refl _ _⟩
    · obtain ⟨bk, o, rfl, hb, hc⟩ := str_cells hr0 h0
      exact Tryd.strings_Join bk o c0 l0 a1 w hc hb hh.1 hc0 hh.2
  · cases h

end Go.Proofs.YtcciackemicbbaaDoor.PFnExactReadPairs
