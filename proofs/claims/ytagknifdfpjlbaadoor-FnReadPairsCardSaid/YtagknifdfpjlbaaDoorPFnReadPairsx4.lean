-- Written by a program of this session, in the manner of the kit's print (wip/pp.py): functions and their contracts.
import Derived.Test.YtagknifdfpjlbaaDoorPFnReadPairsx0
import Derived.Test.YtagknifdfpjlbaaDoorPFnReadPairsx3
namespace Go.Proofs.YtagknifdfpjlbaaDoor.PFnReadPairs
open Go.RowKit Go.Proofs.YtagknifdfpjlbaaDoorW.PrintWords Go.Proofs.YtagknifdfpjlbaaDoorW.PrintLast Go.Proofs.YtagknifdfpjlbaaDoorW.PrintMore
attribute [local go_sem] binOp_leq_str binOp_gtr_str binOp_geq_str max2_int min2_int max_two min_two max_three min_three max_four min_four Instr.field asAgg   -- for this text's walks alone
set_option linter.unusedVariables false
set_option linter.unusedSimpArgs false

/-! ### spec_PairsText: function 10 -/
mutual
def spec_PairsText.l0 : Nat → List (S47) → ByteArray → Int → Option (ByteArray)
  | 0, _, _, _ => none
  | k + 1, a, b, c => if c < (a.length : Int) then ((spec_PairsValid.f k a).bind fun t154 => (spec_PairsText.j1 k a b c t154)) else (spec_PairsText.j1 k a b c false)
def spec_PairsText.j1 : Nat → List (S47) → ByteArray → Int → Bool → Option (ByteArray)
  | 0, _, _, _, _ => none
  | k + 1, a, b, c, d => if d = true then (if c > 0 then (if b.size + 1 ≤ 9223372036854775807 then (if 0 ≤ c then (if c < (a.length : Int) then (if (b ++ (⟨#[32]⟩ : ByteArray)).size + ((rd_T47 a c).f0).size ≤ 9223372036854775807 then (if ((b ++ (⟨#[32]⟩ : ByteArray)) ++ ((rd_T47 a c).f0)).size + 1 ≤ 9223372036854775807 then ((spec_l7Text.f k ((rd_T47 a c).f1)).bind fun t157 => (if (((b ++ (⟨#[32]⟩ : ByteArray)) ++ ((rd_T47 a c).f0)) ++ (⟨#[61]⟩ : ByteArray)).size + t157.size ≤ 9223372036854775807 then (spec_PairsText.l0 k a ((((b ++ (⟨#[32]⟩ : ByteArray)) ++ ((rd_T47 a c).f0)) ++ (⟨#[61]⟩ : ByteArray)) ++ t157) (wrap64 (c + 1))) else (none))) else (none)) else (none)) else (none)) else (none)) else (none)) else (if 0 ≤ c then (if c < (a.length : Int) then (if b.size + ((rd_T47 a c).f0).size ≤ 9223372036854775807 then (if (b ++ ((rd_T47 a c).f0)).size + 1 ≤ 9223372036854775807 then ((spec_l7Text.f k ((rd_T47 a c).f1)).bind fun t160 => (if ((b ++ ((rd_T47 a c).f0)) ++ (⟨#[61]⟩ : ByteArray)).size + t160.size ≤ 9223372036854775807 then (spec_PairsText.l0 k a (((b ++ ((rd_T47 a c).f0)) ++ (⟨#[61]⟩ : ByteArray)) ++ t160) (wrap64 (c + 1))) else (none))) else (none)) else (none)) else (none)) else (none))) else (some b)
end
def spec_PairsText.f (k : Nat) (l0 : List (S47)) : Option (ByteArray) := spec_PairsText.l0 k l0 (⟨#[]⟩ : ByteArray) 0
theorem spec_PairsText.mono_l : ∀ k, (∀ y0 y1 y2, LeO (spec_PairsText.l0 k y0 y1 y2) (spec_PairsText.l0 (k + 1) y0 y1 y2)) ∧ (∀ y0 y1 y2 y3, LeO (spec_PairsText.j1 k y0 y1 y2 y3) (spec_PairsText.j1 (k + 1) y0 y1 y2 y3))
  | 0 => ⟨fun _ _ _ r h => by simp [spec_PairsText.l0] at h, fun _ _ _ _ r h => by simp [spec_PairsText.j1] at h⟩
  | k + 1 => by
    obtain ⟨ih0, ih1⟩ := spec_PairsText.mono_l k
    refine ⟨?_, ?_⟩
    · intro y0 y1 y2
      unfold spec_PairsText.l0
      repeat' with_reducible first | exact ih0 _ _ _ | exact ih1 _ _ _ _ | exact spec_PairsValid.mono .. | exact spec_l7Text.mono .. | exact LeO.refl _ | exact LeO.none _ | refine LeO.ite ?_ ?_ | refine LeO.bind ?_ (fun _ => ?_)
    · intro y0 y1 y2 y3
      unfold spec_PairsText.j1
      repeat' with_reducible first | exact ih0 _ _ _ | exact ih1 _ _ _ _ | exact spec_PairsValid.mono .. | exact spec_l7Text.mono .. | exact LeO.refl _ | exact LeO.none _ | refine LeO.ite ?_ ?_ | refine LeO.bind ?_ (fun _ => ?_)
theorem spec_PairsText.mono : ∀ a0 k, LeO (spec_PairsText.f k a0) (spec_PairsText.f (k + 1) a0) := by
 intro a0 k; obtain ⟨ih0, ih1⟩ := spec_PairsText.mono_l k; unfold spec_PairsText.f; repeat' with_reducible first | exact ih0 _ _ _ | exact ih1 _ _ _ _ | exact spec_PairsValid.mono .. | exact spec_l7Text.mono .. | exact LeO.refl _ | exact LeO.none _ | refine LeO.ite ?_ ?_ | refine LeO.bind ?_ (fun _ => ?_)
def spec_PairsText.T7 : Bool × List (List Nat × List Nat) := (true, [([], []), ([], []), ([], []), ([1, 2], [1, 2]), ([3], [3]), ([4], [4]), ([0, 5], [0, 5]), ([6], [6]), ([], []), ([], []), ([8, 9], [8, 9]), ([10], [10]), ([11], [11]), ([12], [12]), ([7, 13], [7, 13]), ([14, 13, 0, 1, 2, 3, 4, 5, 6, 7, 8, 9, 10, 11, 12, 13, 14], [0, 14])])
def spec_PairsText.B7 : List Nat := [0, 0, 0, 6, 14, 30, 63, 127, 0, 0, 768, 1792, 3840, 7936, 16383, 32767]
theorem spec_PairsText.tab7 : rtab .any (opsOf Tryd.f10 7) = spec_PairsText.T7 := by kernel_rfl
theorem spec_PairsText.bits7 : waitsOk spec_PairsText.T7.2 spec_PairsText.B7 = true := by kernel_rfl
def q10m0 : Array Bool := Array.replicate 16 false
def q10m1 : Array Bool := mkB 16 1
def q10m2 : Array Bool := mkB 16 3
def q10m3 : Array Bool := mkB 16 7
def q10m4 : Array Bool := mkB 16 15
def q10m5 : Array Bool := mkB 16 31
def q10m6 : Array Bool := mkB 16 287
def q10m7 : Array Bool := mkB 16 799
def q10m8 : Array Bool := mkB 16 1823
def q10m9 : Array Bool := mkB 16 3871
def q10m10 : Array Bool := mkB 16 3903
def q10m11 : Array Bool := mkB 16 3967
def q10m12 : Array Bool := mkB 16 4095
def q10m13 : Array Bool := mkB 16 8191
def q10m14 : Array Bool := mkB 16 16383
def q10m15 : Array Bool := mkB 16 32767
def q10m16 : Array Bool := mkB 16 65535
set_option maxHeartbeats 8000000 in
set_option maxRecDepth 100000 in
theorem spec_PairsText.calls (k : Nat) (A0 : Option Addr) (c0 : Nat) (l0 : List (S47)) (r : ByteArray) (w : World) (hr0 : Kd.C k47 w A0 l0.length l0) (hc0 : l0.length ≤ c0) (h : spec_PairsText.f k l0 = some r) :
    Calls Tryd.prog 10 #[.slice A0 l0.length c0] w fun e w' => e = .returned (.string r) ∧ Below w.heap.size w w' := by
 have HR0 := Aside0.mk hr0; have HC0 := Aside0.mk hc0; clear hr0 hc0; have HB := Aside0.mk (Below.refl w.heap.size w); unfold spec_PairsText.f at h; have H := h; clear h; have H' := Aside0.mk H; clear H; go_enter Tryd.func10, Tryd.ntmps10; go_wp2; go_loopg [3, 4] k (fun kq v3 v4 w' => ∃ (x3_1 : ByteArray) (x4_1 : Int), v3 = .string x3_1 ∧ v4 = .int .i64 x4_1 ∧ Aside0 (spec_PairsText.l0 kq l0 x3_1 x4_1 = some r) ∧ Aside0 (kq ≤ k) ∧ Aside0 (Below w.heap.size w w')); case atStart => exact ⟨((⟨#[]⟩ : ByteArray)), (0), zfe, zfe, H', ⟨Nat.le_refl _⟩, ⟨bp HB.out⟩⟩
 case round =>
  clear H'; (try clear c1); obtain ⟨x3_1, x4_1, rfl, rfl, HA, HK1, HB⟩ := hrel
  cases gk with
  | zero => exact absurd HA.out (by simp [spec_PairsText.l0])
  | succ k1 =>
   have H := HA.out; clear HA; simp only [spec_PairsText.l0] at H; have HC2 := Aside0.mk H; clear H; go_upto_region 3 with (fail); go_cut [12] (fun v12 wc => ∃ (kq : Nat) (x12_1 : Bool), v12 = .bool x12_1 ∧ Aside0 (spec_PairsText.j1 kq l0 x3_1 x4_1 x12_1 = some r) ∧ Aside0 (kq ≤ k1) ∧ Aside0 (Below w.heap.size w wc))
   case first =>
    have H := HC2.out; clear HC2; by_cases c3 : x4_1 < (l0.length : Int)
    ·rw [if_pos c3] at H; have c3b0 : decide (x4_1 < (l0.length : Int)) = true := decide_eq_true c3; clear c3; (first | rw [c3b0] | (simp only [i64_w, i32_w]; rw [c3b0]) | skip); obtain ⟨t154, A4, H⟩ := zbd H; (try dsimp only at H); have H' := Aside0.mk H; clear H; (go_wp2_with (first | (go_at_call 32; (with_reducible refine (spec_PairsValid.calls k1 _ _ l0 t154 _ ?side1 ?side2 A4.out).mono ?_); (case side1 => exact cc (Kd.C_below HR0.out HB.out)); (case side2 => exact HC0.out); rintro e w5 ⟨rfl, hb⟩; replace HB := an0 HB hb; (try clear hb); (try clear hb2); (try clear hk); (try clear hi); (try clear hgw)))); go_meet; case rel => exact ⟨_, (t154), zfe, H', ⟨by have := HK1.out; first | omega | exact Nat.le_refl _⟩, ⟨bp HB.out⟩⟩
    ·rw [if_neg c3] at H; have c3b0 : decide (x4_1 < (l0.length : Int)) = false := decide_eq_false c3; clear c3; (first | rw [c3b0] | (simp only [i64_w, i32_w]; rw [c3b0]) | skip); have H' := Aside0.mk H; clear H; go_wp2; go_meet; case rel => exact ⟨_, (false), zfe, H', ⟨by have := HK1.out; first | omega | exact Nat.le_refl _⟩, ⟨bp HB.out⟩⟩
   case rest =>
    clear HC2; (try clear c1); (try clear p2); (try clear c3); (try clear c3b0); obtain ⟨kq, x12_1, rfl, HA, HJ1, HB⟩ := hcut
    cases kq with
    | zero => exact absurd HA.out (by simp [spec_PairsText.j1])
    | succ kj1 =>
     have H := HA.out; clear HA; simp only [spec_PairsText.j1] at H; by_cases c6 : x12_1 = true
     ·subst c6; rw [if_pos rfl] at H; by_cases c7 : x4_1 > 0
      ·rw [if_pos c7] at H; have c7b0 : decide (0 < x4_1) = true := decide_eq_true c7; clear c7; by_cases c8 : x3_1.size + 1 ≤ 9223372036854775807
       ·rw [if_pos c8] at H; have c8b0 := eq_true c8; have c8b1 : decide (x3_1.size + 1 ≤ 9223372036854775807) = true := decide_eq_true c8; (try have c8b2 : (9223372036854775807 < x3_1.size + 1) = False := eq_false (Nat.not_lt.2 c8)); by_cases c9 : 0 ≤ x4_1
        ·rw [if_pos c9] at H; have c9b0 : decide (0 ≤ x4_1) = true := decide_eq_true c9; clear c9; by_cases c10 : x4_1 < (l0.length : Int)
         ·rw [if_pos c10] at H; have c10b0 : decide (x4_1 < (l0.length : Int)) = true := decide_eq_true c10; clear c10; by_cases c11 : (x3_1 ++ (⟨#[32]⟩ : ByteArray)).size + ((rd_T47 l0 x4_1).f0).size ≤ 9223372036854775807
          ·rw [if_pos c11] at H; have c11b0 := eq_true c11; have c11b1 : decide ((x3_1 ++ (⟨#[32]⟩ : ByteArray)).size + ((rd_T47 l0 x4_1).f0).size ≤ 9223372036854775807) = true := decide_eq_true c11; (try have c11b2 : (9223372036854775807 < (x3_1 ++ (⟨#[32]⟩ : ByteArray)).size + ((rd_T47 l0 x4_1).f0).size) = False := eq_false (Nat.not_lt.2 c11)); (try (have c11b3 := c11b2; conv at c11b3 => (lhs; simp [go_sem]))); by_cases c12 : ((x3_1 ++ (⟨#[32]⟩ : ByteArray)) ++ ((rd_T47 l0 x4_1).f0)).size + 1 ≤ 9223372036854775807
           ·rw [if_pos c12] at H; have c12b0 := eq_true c12; have c12b1 : decide (((x3_1 ++ (⟨#[32]⟩ : ByteArray)) ++ ((rd_T47 l0 x4_1).f0)).size + 1 ≤ 9223372036854775807) = true := decide_eq_true c12; (try have c12b2 : (9223372036854775807 < ((x3_1 ++ (⟨#[32]⟩ : ByteArray)) ++ ((rd_T47 l0 x4_1).f0)).size + 1) = False := eq_false (Nat.not_lt.2 c12)); (try (have c12b3 := c12b2; conv at c12b3 => (lhs; simp [go_sem]))); obtain ⟨t157, A13, H⟩ := zbd H; (try dsimp only at H); by_cases c14 : (((x3_1 ++ (⟨#[32]⟩ : ByteArray)) ++ ((rd_T47 l0 x4_1).f0)) ++ (⟨#[61]⟩ : ByteArray)).size + t157.size ≤ 9223372036854775807
            ·rw [if_pos c14] at H; have c14b0 := eq_true c14; have c14b1 : decide ((((x3_1 ++ (⟨#[32]⟩ : ByteArray)) ++ ((rd_T47 l0 x4_1).f0)) ++ (⟨#[61]⟩ : ByteArray)).size + t157.size ≤ 9223372036854775807) = true := decide_eq_true c14; (try have c14b2 : (9223372036854775807 < (((x3_1 ++ (⟨#[32]⟩ : ByteArray)) ++ ((rd_T47 l0 x4_1).f0)) ++ (⟨#[61]⟩ : ByteArray)).size + t157.size) = False := eq_false (Nat.not_lt.2 c14)); (try (have c14b3 := c14b2; conv at c14b3 => (lhs; simp [go_sem]))); have H' := Aside0.mk H; clear H; (try go_wp2); have n0_ := Aside0.mk (below_drew1 HB.out); clear HB; have HB := n0_; clear n0_; have p155 : 0 ≤ (x4_1 : Int) := zda; have q155 : x4_1 < (l0.length : Int) := zda; obtain ⟨ad155, e155, hx155_0, hx155_1⟩ := at_T47 HR0.out x4_1 p155 q155; have hw155_1 := hx155_1; have hw155_0 := hx155_0; cases e155; replace hx155_0 := hcx HB hx155_0; replace hx155_1 := hcx HB hx155_1; replace p155 := eq_true p155; replace q155 := eq_true q155; have p156 : 0 ≤ (x4_1 : Int) := zda; have q156 : x4_1 < (l0.length : Int) := zda; obtain ⟨ad156, e156, hx156_0, hx156_1⟩ := at_T47 HR0.out x4_1 p156 q156; have hw156_1 := hx156_1; have hw156_0 := hx156_0; (obtain rfl : ad155 = ad156 := (by injection e156)); replace hx156_0 := hcx HB hx156_0; replace hx156_1 := hcx HB hx156_1; replace p156 := eq_true p156; replace q156 := eq_true q156; (refine start_ (n := 16) (S := fun w' => w'.cell? (ad155.add ((x4_1).toNat * 2)) = some (.string ((rd_T47 l0 x4_1).f0)) ∧ w'.cell? ⟨(ad155.add ((x4_1).toNat * 2)).block, (ad155.add ((x4_1).toNat * 2)).off + 1, none⟩ = some (.int .i64 ((rd_T47 l0 x4_1).f1)) ∧ w'.cell? (ad155.add ((x4_1).toNat * 2)) = some (.string ((rd_T47 l0 x4_1).f0)) ∧ w'.cell? ⟨(ad155.add ((x4_1).toNat * 2)).block, (ad155.add ((x4_1).toNat * 2)).off + 1, none⟩ = some (.int .i64 ((rd_T47 l0 x4_1).f1))) (ds := []) q10m0 (by kernel_rfl) rfl rfl ⟨(hcx HB hw155_0), (hcx HB hw155_1), (hcx HB hw156_0), (hcx HB hw156_1)⟩ (fun hHeld => ?_); refine with_tabW spec_PairsText.tab7 spec_PairsText.bits7 (fun HT_ HW_ => ?_)); generalize wc.drew = w15 at HB hx155_0 hx155_1 hx156_0 hx156_1 hHeld ⊢; refine zp 0 19 q10m1 HT_.out ?_; refine zp 1 20 q10m2 HT_.out ?_; refine zp 2 21 q10m3 HT_.out ?_; refine zp 3 22 q10m4 HT_.out ?_; refine zp 4 23 q10m5 HT_.out ?_; refine zp 8 27 q10m6 HT_.out ?_; refine zp 9 28 q10m7 HT_.out ?_; refine zp 10 29 q10m8 HT_.out ?_; refine zp 11 30 q10m9 HT_.out ?_; refine tak (i := 5) (N := some 24) q10m10 rfl rfl HT_.out HW_.out hHeld ?_; refine zp 6 25 q10m11 HT_.out ?_; refine zp 7 26 q10m12 HT_.out ?_; refine tak (i := 12) (N := some 31) q10m13 rfl rfl HT_.out HW_.out hHeld ?_; refine ones (i := 13) (N := some 32) q10m14 rfl rfl HT_.out (fun K hK => ?_); refine gos Tryd.func33 #[.int .i64 ((rd_T47 l0 x4_1).f1)] rfl ?_; (with_reducible refine (spec_l7Text.calls kj1 ((rd_T47 l0 x4_1).f1) t157 _ A13.out).mono ?_); rintro e w16 ⟨rfl, hb⟩; refine ⟨_, rfl, ?_⟩; have n0_ := an0 HB hb; clear HB; have HB := n0_; clear n0_; (try clear hb); (try clear hb2); (try clear hk); (try clear hi); (try clear hgw); refine hK.out _ _ ⟨(hcx HB hw155_0), (hcx HB hw155_1), (hcx HB hw156_0), (hcx HB hw156_1)⟩ (fun hHeld => ?_); clear hK K; refine norm_ (a' := ?_) ?_ ?_; rotate_left
             ·show Act.put _ (some 32) _ = _; simp only [Act.put, List.setIfInBounds_toArray, List.set_cons_zero, List.set_cons_succ, i64_w, i32_w]; rfl
             refine zp 14 33 q10m15 HT_.out ?_; refine zp 15 3 q10m16 HT_.out ?_; (refine done_ (done_of HT_.out (by kernel_rfl)) ?_); (try go_wp2); go_roundg kj1; (case measure => have := HK1.out; have := HJ1.out; omega); case rel => exact ⟨((((x3_1 ++ (⟨#[32]⟩ : ByteArray)) ++ ((rd_T47 l0 x4_1).f0)) ++ (⟨#[61]⟩ : ByteArray)) ++ t157), (wrap64 (x4_1 + 1)), zfe, zfe, H', ⟨by have := HK1.out; have := HJ1.out; omega⟩, ⟨bp HB.out⟩⟩
            ·rw [if_neg c14] at H; exact absurd H (by simp)
           ·rw [if_neg c12] at H; exact absurd H (by simp)
          ·rw [if_neg c11] at H; exact absurd H (by simp)
         ·rw [if_neg c10] at H; exact absurd H (by simp)
        ·rw [if_neg c9] at H; exact absurd H (by simp)
       ·rw [if_neg c8] at H; exact absurd H (by simp)
      ·rw [if_neg c7] at H; have c7b0 : decide (0 < x4_1) = false := decide_eq_false c7; clear c7; by_cases c17 : 0 ≤ x4_1
       ·rw [if_pos c17] at H; have c17b0 : decide (0 ≤ x4_1) = true := decide_eq_true c17; clear c17; by_cases c18 : x4_1 < (l0.length : Int)
        ·rw [if_pos c18] at H; have c18b0 : decide (x4_1 < (l0.length : Int)) = true := decide_eq_true c18; clear c18; by_cases c19 : x3_1.size + ((rd_T47 l0 x4_1).f0).size ≤ 9223372036854775807
         ·rw [if_pos c19] at H; have c19b0 := eq_true c19; have c19b1 : decide (x3_1.size + ((rd_T47 l0 x4_1).f0).size ≤ 9223372036854775807) = true := decide_eq_true c19; (try have c19b2 : (9223372036854775807 < x3_1.size + ((rd_T47 l0 x4_1).f0).size) = False := eq_false (Nat.not_lt.2 c19)); by_cases c20 : (x3_1 ++ ((rd_T47 l0 x4_1).f0)).size + 1 ≤ 9223372036854775807
          ·rw [if_pos c20] at H; have c20b0 := eq_true c20; have c20b1 : decide ((x3_1 ++ ((rd_T47 l0 x4_1).f0)).size + 1 ≤ 9223372036854775807) = true := decide_eq_true c20; (try have c20b2 : (9223372036854775807 < (x3_1 ++ ((rd_T47 l0 x4_1).f0)).size + 1) = False := eq_false (Nat.not_lt.2 c20)); (try (have c20b3 := c20b2; conv at c20b3 => (lhs; simp [go_sem]))); obtain ⟨t160, A21, H⟩ := zbd H; (try dsimp only at H); by_cases c22 : ((x3_1 ++ ((rd_T47 l0 x4_1).f0)) ++ (⟨#[61]⟩ : ByteArray)).size + t160.size ≤ 9223372036854775807
           ·rw [if_pos c22] at H; have c22b0 := eq_true c22; have c22b1 : decide (((x3_1 ++ ((rd_T47 l0 x4_1).f0)) ++ (⟨#[61]⟩ : ByteArray)).size + t160.size ≤ 9223372036854775807) = true := decide_eq_true c22; (try have c22b2 : (9223372036854775807 < ((x3_1 ++ ((rd_T47 l0 x4_1).f0)) ++ (⟨#[61]⟩ : ByteArray)).size + t160.size) = False := eq_false (Nat.not_lt.2 c22)); (try (have c22b3 := c22b2; conv at c22b3 => (lhs; simp [go_sem]))); have H' := Aside0.mk H; clear H; (try go_wp2); have n0_ := Aside0.mk (below_drew1 HB.out); clear HB; have HB := n0_; clear n0_; have p158 : 0 ≤ (x4_1 : Int) := zda; have q158 : x4_1 < (l0.length : Int) := zda; obtain ⟨ad158, e158, hx158_0, hx158_1⟩ := at_T47 HR0.out x4_1 p158 q158; have hw158_1 := hx158_1; have hw158_0 := hx158_0; cases e158; replace hx158_0 := hcx HB hx158_0; replace hx158_1 := hcx HB hx158_1; replace p158 := eq_true p158; replace q158 := eq_true q158; have p159 : 0 ≤ (x4_1 : Int) := zda; have q159 : x4_1 < (l0.length : Int) := zda; obtain ⟨ad159, e159, hx159_0, hx159_1⟩ := at_T47 HR0.out x4_1 p159 q159; have hw159_1 := hx159_1; have hw159_0 := hx159_0; (obtain rfl : ad158 = ad159 := (by injection e159)); replace hx159_0 := hcx HB hx159_0; replace hx159_1 := hcx HB hx159_1; replace p159 := eq_true p159; replace q159 := eq_true q159; (refine start_ (n := 16) (S := fun w' => w'.cell? (ad158.add ((x4_1).toNat * 2)) = some (.string ((rd_T47 l0 x4_1).f0)) ∧ w'.cell? ⟨(ad158.add ((x4_1).toNat * 2)).block, (ad158.add ((x4_1).toNat * 2)).off + 1, none⟩ = some (.int .i64 ((rd_T47 l0 x4_1).f1)) ∧ w'.cell? (ad158.add ((x4_1).toNat * 2)) = some (.string ((rd_T47 l0 x4_1).f0)) ∧ w'.cell? ⟨(ad158.add ((x4_1).toNat * 2)).block, (ad158.add ((x4_1).toNat * 2)).off + 1, none⟩ = some (.int .i64 ((rd_T47 l0 x4_1).f1))) (ds := []) q10m0 (by kernel_rfl) rfl rfl ⟨(hcx HB hw158_0), (hcx HB hw158_1), (hcx HB hw159_0), (hcx HB hw159_1)⟩ (fun hHeld => ?_); refine with_tabW spec_PairsText.tab7 spec_PairsText.bits7 (fun HT_ HW_ => ?_)); generalize wc.drew = w23 at HB hx158_0 hx158_1 hx159_0 hx159_1 hHeld ⊢; refine zp 0 19 q10m1 HT_.out ?_; refine zp 1 20 q10m2 HT_.out ?_; refine zp 2 21 q10m3 HT_.out ?_; refine zp 3 22 q10m4 HT_.out ?_; refine zp 4 23 q10m5 HT_.out ?_; refine zp 8 27 q10m6 HT_.out ?_; refine zp 9 28 q10m7 HT_.out ?_; refine zp 10 29 q10m8 HT_.out ?_; refine zp 11 30 q10m9 HT_.out ?_; refine tak (i := 5) (N := some 24) q10m10 rfl rfl HT_.out HW_.out hHeld ?_; refine zp 6 25 q10m11 HT_.out ?_; refine zp 7 26 q10m12 HT_.out ?_; refine tak (i := 12) (N := some 31) q10m13 rfl rfl HT_.out HW_.out hHeld ?_; refine ones (i := 13) (N := some 32) q10m14 rfl rfl HT_.out (fun K hK => ?_); refine gos Tryd.func33 #[.int .i64 ((rd_T47 l0 x4_1).f1)] rfl ?_; (with_reducible refine (spec_l7Text.calls kj1 ((rd_T47 l0 x4_1).f1) t160 _ A21.out).mono ?_); rintro e w24 ⟨rfl, hb⟩; refine ⟨_, rfl, ?_⟩; have n0_ := an0 HB hb; clear HB; have HB := n0_; clear n0_; (try clear hb); (try clear hb2); (try clear hk); (try clear hi); (try clear hgw); refine hK.out _ _ ⟨(hcx HB hw158_0), (hcx HB hw158_1), (hcx HB hw159_0), (hcx HB hw159_1)⟩ (fun hHeld => ?_); clear hK K; refine norm_ (a' := ?_) ?_ ?_; rotate_left
            ·show Act.put _ (some 32) _ = _; simp only [Act.put, List.setIfInBounds_toArray, List.set_cons_zero, List.set_cons_succ, i64_w, i32_w]; rfl
            refine zp 14 33 q10m15 HT_.out ?_; refine zp 15 3 q10m16 HT_.out ?_; (refine done_ (done_of HT_.out (by kernel_rfl)) ?_); (try go_wp2); go_roundg kj1; (case measure => have := HK1.out; have := HJ1.out; omega); case rel => exact ⟨(((x3_1 ++ ((rd_T47 l0 x4_1).f0)) ++ (⟨#[61]⟩ : ByteArray)) ++ t160), (wrap64 (x4_1 + 1)), zfe, zfe, H', ⟨by have := HK1.out; have := HJ1.out; omega⟩, ⟨bp HB.out⟩⟩
           ·rw [if_neg c22] at H; exact absurd H (by simp)
          ·rw [if_neg c20] at H; exact absurd H (by simp)
         ·rw [if_neg c19] at H; exact absurd H (by simp)
        ·rw [if_neg c18] at H; exact absurd H (by simp)
       ·rw [if_neg c17] at H; exact absurd H (by simp)
     ·replace c6 := Bool.eq_false_iff.mpr c6; subst c6; rw [if_neg zft] at H; obtain rfl := Option.some.inj H; go_wp2; go_ret; exact ⟨fe, bp HB.out⟩
/-- A state of type 72 at block g of W; what its slices lead to came in by w0. -/
def IsS72 (w0 W : World) (g : Nat) (f0 : List Int) (f1 : Int) : Prop := ∃ A0 c0, W.heap[g]? = some (.cells #[.slice A0 f0.length c0, .int .i64 f1] 72 (0, 0)) ∧ w0.heap.size ≤ g ∧ Kd.C (Kd.int .u8) w0 A0 f0.length f0
theorem IsS72.grown {w0 W : World} {g : Nat} {f0 : List Int} {f1 : Int} {W1 : World} {row : Option Nat} (h : IsS72 w0 W g f0 f1) (hw : W.grownBy W1 row) (hne : some g ≠ row) : IsS72 w0 W1 g f0 f1 := by
 obtain ⟨A0, c0, hb, hg, hr0⟩ := h; exact ⟨A0, c0, blk_grown hb hw hne, hg, hr0⟩
theorem IsS72.own_neN {w0 W : World} {g : Nat} {f0 : List Int} {f1 : Int} {α : Type} {d : Kd α} {e : Nat} {base : Nat} {ok : Nat → Prop} {v : Value} {xs : List α} (h : IsS72 w0 W g f0 f1) (ho : Kd.N d e W base ok v xs) (ht : e ≠ 72) : some g ≠ v.ownBlock := by
 obtain ⟨A0, c0, hb, hg, hr0⟩ := h; exact Kd.N_ne ho hb ht
theorem IsS72.fresh {w0 W : World} {g : Nat} {f0 : List Int} {f1 : Int} (h : IsS72 w0 W g f0 f1) : ∀ k, W.heap.size ≤ k → k ≠ g := by
 obtain ⟨A0, c0, hb, hg, hr0⟩ := h; exact Kd.freshB hb
theorem IsS72.kept {w0 W : World} {g : Nat} {f0 : List Int} {f1 : Int} {W1 : World} {S : Nat → Prop} (h : IsS72 w0 W g f0 f1) (hk : Kept W W1 S) (hne : ¬ S g) : IsS72 w0 W1 g f0 f1 := by
 obtain ⟨A0, c0, hb, hg, hr0⟩ := h; exact ⟨A0, c0, blk_kept hb hk hne, hg, hr0⟩
theorem IsS72.below {w0 W : World} {g : Nat} {f0 : List Int} {f1 : Int} {W1 : World} (h : IsS72 w0 W g f0 f1) (hw : Below W.heap.size W W1) : IsS72 w0 W1 g f0 f1 := h.grown (grown_of_below hw none) (by simp)
theorem IsS72.alloc {w0 W : World} {g : Nat} {f0 : List Int} {f1 : Int} (h : IsS72 w0 W g f0 f1) (o : Obj) : IsS72 w0 (W.alloc o) g f0 f1 := h.below (below_alloc (Below.refl _ _) o)
theorem IsS72.drewN {w0 W : World} {g : Nat} {f0 : List Int} {f1 : Int} (h : IsS72 w0 W g f0 f1) (m : Nat) : IsS72 w0 (W.drewN m) g f0 f1 := h
theorem IsS72.drew {w0 W : World} {g : Nat} {f0 : List Int} {f1 : Int} (h : IsS72 w0 W g f0 f1) : IsS72 w0 W.drew g f0 f1 := h
theorem IsS72.at_ {w0 W : World} {g : Nat} {f0 : List Int} {f1 : Int} {w' : World} {m : Nat} (hq : W.drewN m = w') (h : IsS72 w0 W g f0 f1) : IsS72 w0 w' g f0 f1 := by subst hq; exact IsS72.drewN h m
theorem IsS72.apart {w0 W : World} {g : Nat} {f0 : List Int} {f1 : Int} {α : Type} {d : Kd α} {e : Nat} {base : Nat} {ok : Nat → Prop} {v : Value} {xs : List α} (h : IsS72 w0 W g f0 f1) (ho : d.R e W base ok v xs) (ht : ∀ q, q ∈ e :: d.E → q ≠ 72) : d.R e W base (fun k => ok k ∧ k ≠ g) v xs := by
 obtain ⟨A0, c0, hb, hg, hr0⟩ := h; exact Kd.R_types ho hb ht
theorem IsS72.own_ne {w0 W : World} {g : Nat} {f0 : List Int} {f1 : Int} {α : Type} {d : Kd α} {e : Nat} {base : Nat} {ok : Nat → Prop} {v : Value} {xs : List α} (h : IsS72 w0 W g f0 f1) (ho : d.R e W base ok v xs) (ht : e ≠ 72) : some g ≠ v.ownBlock := by
 obtain ⟨A0, c0, hb, hg, hr0⟩ := h; exact Kd.R_ne ho hb ht
theorem IsS72.apartQ {w0 W : World} {g : Nat} {f0 : List Int} {f1 : Int} {α : Type} {d : Kd α} {e : Nat} {base : Nat} {ok : Nat → Prop} {v : Value} {xs : List α} (h : IsS72 w0 W g f0 f1) (ho : d.Q e W base ok v xs) (ht : ∀ q, q ∈ e :: d.E → q ≠ 72) : d.Q e W base (fun k => ok k ∧ k ≠ g) v xs := by
 obtain ⟨A0, c0, hb, hg, hr0⟩ := h; exact Kd.Q_types ho hb ht
theorem IsS72.own_neQ {w0 W : World} {g : Nat} {f0 : List Int} {f1 : Int} {α : Type} {d : Kd α} {e : Nat} {base : Nat} {ok : Nat → Prop} {v : Value} {xs : List α} (h : IsS72 w0 W g f0 f1) (ho : d.Q e W base ok v xs) (ht : e ≠ 72) : some g ≠ v.ownBlock := by
 obtain ⟨A0, c0, hb, hg, hr0⟩ := h; exact Kd.Q_ne ho hb ht
theorem IsS72.apartS {w0 W : World} {g : Nat} {f0 : List Int} {f1 : Int} {α : Type} {d : Kd α} {e : Nat} {base : Nat} {ok : Nat → Prop} {v : Value} {xs : List α} (h : IsS72 w0 W g f0 f1) (ho : d.S e W base ok v xs) (ht : ∀ q, q ∈ e :: d.E → q ≠ 72) : d.S e W base (fun k => ok k ∧ k ≠ g) v xs := by
 obtain ⟨A0, c0, hb, hg, hr0⟩ := h; exact Kd.S_types ho hb ht
theorem IsS72.own_neS {w0 W : World} {g : Nat} {f0 : List Int} {f1 : Int} {α : Type} {d : Kd α} {e : Nat} {base : Nat} {ok : Nat → Prop} {v : Value} {xs : List α} (h : IsS72 w0 W g f0 f1) (ho : d.S e W base ok v xs) (ht : e ≠ 72) : some g ≠ v.ownBlock := by
 obtain ⟨A0, c0, hb, hg, hr0⟩ := h; exact Kd.S_ne ho hb ht
theorem IsS72.lt {w0 W : World} {g : Nat} {f0 : List Int} {f1 : Int} (h : IsS72 w0 W g f0 f1) : g < W.heap.size := by
 obtain ⟨A0, c0, hb, hg, hr0⟩ := h; exact blk_lt hb
theorem IsS72.ge {w0 W : World} {g : Nat} {f0 : List Int} {f1 : Int} (h : IsS72 w0 W g f0 f1) : w0.heap.size ≤ g := by
 obtain ⟨A0, c0, hb, hg, hr0⟩ := h; exact hg
theorem IsS72.ne_blk {w0 W : World} {g : Nat} {f0 : List Int} {f1 : Int} {a : Nat} {cs : Array Value} {t : TypeId} {fr : Nat × Nat} (h : IsS72 w0 W g f0 f1) (hb2 : W.heap[a]? = some (.cells cs t fr)) (ht : t ≠ 72) : g ≠ a := by
 obtain ⟨A0, c0, hb, hg, hr0⟩ := h; rintro rfl; rw [hb] at hb2; injection hb2 with hb2; injection hb2 with _ ht2; exact ht ht2.symm
theorem IsS72.farA {w0 W : World} {g : Nat} {f0 : List Int} {f1 : Int} {b o : Nat} {q_ : Option Nat} {u : Value} (hne : g ≠ b) (h : IsS72 w0 W g f0 f1) : IsS72 w0 (W.setCell ⟨b, o, q_⟩ u) g f0 f1 := by
 obtain ⟨A0, c0, hb, hg, hr0⟩ := h; exact ⟨A0, c0, blk_far hb hne u, hg, hr0⟩
theorem IsS72.far {w0 W : World} {g : Nat} {f0 : List Int} {f1 : Int} {p : Addr} (h : IsS72 w0 W g f0 f1) (hne : g ≠ p.block) (u : Value) : IsS72 w0 (W.setCell p u) g f0 f1 := by
 obtain ⟨A0, c0, hb, hg, hr0⟩ := h; exact ⟨A0, c0, blk_far hb hne u, hg, hr0⟩
theorem cellS72_0 {W : World} {g : Nat} {A0 : Option Addr} {c0 : Nat} {f0 : List Int} {f1 : Int} (h : W.heap[g]? = some (.cells #[.slice A0 f0.length c0, .int .i64 f1] 72 (0, 0))) : W.cell? ⟨g, 0, none⟩ = some (.slice A0 f0.length c0) := (blk_cell h 0).trans rfl
theorem cellS72_1 {W : World} {g : Nat} {A0 : Option Addr} {c0 : Nat} {f0 : List Int} {f1 : Int} (h : W.heap[g]? = some (.cells #[.slice A0 f0.length c0, .int .i64 f1] 72 (0, 0))) : W.cell? ⟨g, 1, none⟩ = some (.int .i64 f1) := (blk_cell h 1).trans rfl
theorem IsS72.set_1 {w0 W : World} {g : Nat} {f0 : List Int} {f1 : Int} (h : IsS72 w0 W g f0 f1) (x : Int) : IsS72 w0 (W.setCell ⟨g, 1, none⟩ (.int .i64 x)) g f0 x := by
 obtain ⟨A0, c0, hb, hg, hr0⟩ := h; exact ⟨A0, c0, by simpa using blk_set hb 1 (.int .i64 x), hg, hr0⟩
theorem IsS72.new (w0 W : World) (A0 : Option Addr) (c0 : Nat) (f0 : List Int) (f1 : Int) (hB : Below w0.heap.size w0 W) (hr0 : Kd.C (Kd.int .u8) w0 A0 f0.length f0) : IsS72 w0 (W.alloc (.cells #[.slice A0 f0.length c0, .int .i64 f1] 72)) W.heap.size f0 f1 := ⟨A0, c0, by simpa using heap_alloc_new W _, hB.size, hr0⟩

/-! ### spec_l20Rd_pick: function 45 -/
def spec_l20Rd_pick.j0 : Nat → Int → Bool → List Int → Int → Option (Int × Int)
  | 0, _, _, _, _ => none
  | k + 1, a, b, c, d => if b = true then (some (0, d)) else (if (wrap64 (d - 1)) < (c.length : Int) then (if 0 ≤ (wrap64 (d - 1)) then (if a = 0 then (none) else (some (Int.tmod (wrap64 (rd c (wrap64 (d - 1)))) a, d))) else (none)) else (if (c.length : Int) = 0 then (none) else (if 0 ≤ (Int.tmod (wrap64 (d - 1)) (c.length : Int)) then (if (Int.tmod (wrap64 (d - 1)) (c.length : Int)) < (c.length : Int) then (if 0 ≤ (Int.tmod (wrap64 ((wrap64 ((wrap64 (d - 1)) * 7)) + 3)) (c.length : Int)) then (if (Int.tmod (wrap64 ((wrap64 ((wrap64 (d - 1)) * 7)) + 3)) (c.length : Int)) < (c.length : Int) then (if a = 0 then (none) else (some (Int.tmod (Go.bits .xor .i64 (wrap64 ((wrap64 ((wrap64 ((wrap64 ((wrap64 (rd c (Int.tmod (wrap64 (d - 1)) (c.length : Int)))) * 131)) + (wrap64 ((wrap64 (rd c (Int.tmod (wrap64 ((wrap64 ((wrap64 (d - 1)) * 7)) + 3)) (c.length : Int)))) * 1117)))) + (wrap64 ((wrap64 (d - 1)) * 29)))) + (wrap64 ((wrap64 (Int.tdiv (wrap64 (d - 1)) (c.length : Int))) * 53)))) (wrap64 (Int.tdiv (wrap64 ((wrap64 ((wrap64 ((wrap64 ((wrap64 (rd c (Int.tmod (wrap64 (d - 1)) (c.length : Int)))) * 131)) + (wrap64 ((wrap64 (rd c (Int.tmod (wrap64 ((wrap64 ((wrap64 (d - 1)) * 7)) + 3)) (c.length : Int)))) * 1117)))) + (wrap64 ((wrap64 (d - 1)) * 29)))) + (wrap64 ((wrap64 (Int.tdiv (wrap64 (d - 1)) (c.length : Int))) * 53)))) 64))) a, d))) else (none)) else (none)) else (none)) else (none))))
def spec_l20Rd_pick.f (k : Nat) (s0_0 : List Int) (s0_1 : Int) (a1 : Int) : Option (Int × Int) := if a1 < 1 then (spec_l20Rd_pick.j0 k a1 true s0_0 (wrap64 (s0_1 + 1))) else (spec_l20Rd_pick.j0 k a1 ((s0_0.length : Int) == 0) s0_0 (wrap64 (s0_1 + 1)))
theorem spec_l20Rd_pick.mono_l : ∀ k, (∀ y0 y1 y2 y3, LeO (spec_l20Rd_pick.j0 k y0 y1 y2 y3) (spec_l20Rd_pick.j0 (k + 1) y0 y1 y2 y3))
  | 0 => fun _ _ _ _ r h => by simp [spec_l20Rd_pick.j0] at h
  | k + 1 => by
    have ih0 := spec_l20Rd_pick.mono_l k
    · intro y0 y1 y2 y3
      unfold spec_l20Rd_pick.j0
      repeat' with_reducible first | exact ih0 _ _ _ _ | exact LeO.refl _ | exact LeO.none _ | refine LeO.ite ?_ ?_ | refine LeO.bind ?_ (fun _ => ?_)
theorem spec_l20Rd_pick.mono : ∀ a0 a1 a2 k, LeO (spec_l20Rd_pick.f k a0 a1 a2) (spec_l20Rd_pick.f (k + 1) a0 a1 a2) := by
 intro a0 a1 a2 k; have ih0 := spec_l20Rd_pick.mono_l k; unfold spec_l20Rd_pick.f; repeat' with_reducible first | exact ih0 _ _ _ _ | exact LeO.refl _ | exact LeO.none _ | refine LeO.ite ?_ ?_ | refine LeO.bind ?_ (fun _ => ?_)
theorem spec_l20Rd_pick.s0 {P0 Q : Prop} (B0 : P0) (h : P0 → Q := by (intro b0_; repeat (first | (with_reducible first | exact b0_ | apply IsS72.alloc | apply IsS72.drewN | apply IsS72.drew | apply IsS72.set_1) | exact b0_))) : Q := h B0
theorem spec_l20Rd_pick.s1 {P0 Q : Prop} (B0 : P0) (h : P0 → Q := by (intro b0_; repeat (first | (with_reducible first | exact b0_ | apply KeepBut.set_ | apply keep_drewN | apply keep_drew | apply keep_alloc) | exact b0_))) : Q := h B0
theorem spec_l20Rd_pick.s2 {P0 P1 Q : Prop} (B0 : P0) (B1 : P1) (h : P0 → P1 → Q := by (intro b0_ b1_; repeat (first | (with_reducible first | exact b0_ | apply below_alloc | apply pw_below_drewN | apply below_drew1 | refine below_set ?_ (IsS72.ge b1_)) | exact b0_))) : Q := h B0 B1
set_option maxHeartbeats 8000000 in
set_option maxRecDepth 100000 in
theorem spec_l20Rd_pick.calls (k : Nat) (g : Nat) (s0_0 : List Int) (s0_1 : Int) (a1 : Int) (r1 : Int) (r2 : Int) (w0 w : World) (hI : IsS72 w0 w g s0_0 s0_1) (hB : Below w0.heap.size w0 w) (h : spec_l20Rd_pick.f k s0_0 s0_1 a1 = some (r1, r2)) :
    Calls Tryd.prog 45 #[.pointer (some ⟨g, 0, none⟩), .int .i64 a1] w fun e w' => e = .returned (.int .i64 r1) ∧ IsS72 w0 w' g s0_0 r2 ∧ Below w0.heap.size w0 w' ∧ KeepBut w w' g none := by
 have HI0 := Aside0.mk hI; have HK := Aside0.mk (KeepBut.refl w g none); have HL := Aside0.mk hB.size; clear hI; have HW0 := Aside0.mk hB.size; have HB := Aside0.mk hB; clear hB; unfold spec_l20Rd_pick.f at h; have H := h; clear h; have HC3 := Aside0.mk H; clear H; obtain ⟨ASz4_0, cSz4_0, HGz4, hgz4, HSz4_0⟩ := HI0.out; have z4a := cellS72_0 HGz4; have z4b := cellS72_1 HGz4; have f4b := blk_frozen HGz4 1; clear HGz4 hgz4; go_enter Tryd.func45, Tryd.ntmps45; go_upto_region 2 with (fail); (repeat (go_quiet (fail); go_upto_region 2 with (fail))); go_cut [24] (fun v24 wc => ∃ (kq : Nat) (x24_2 : Bool), v24 = .bool x24_2 ∧ Aside0 (spec_l20Rd_pick.j0 kq a1 x24_2 s0_0 (wrap64 (s0_1 + 1)) = some (r1, r2)) ∧ Aside0 (kq ≤ k) ∧ Aside0 (IsS72 w0 wc g s0_0 (wrap64 (s0_1 + 1))) ∧ Aside0 (KeepBut w wc g none) ∧ Aside0 (Below w0.heap.size w0 wc))
 case first =>
  have H := HC3.out; clear HC3; by_cases c5 : a1 < 1
  ·rw [if_pos c5] at H; have c5b0 : decide (a1 < 1) = true := decide_eq_true c5; clear c5; (first | rw [c5b0] | (simp only [i64_w, i32_w]; rw [c5b0]) | skip); have H' := Aside0.mk H; clear H; go_wp2; (repeat (go_quiet (fail); try go_wp2)); go_meet; case rel => exact ⟨_, (true), zfe, H', ⟨by first | omega | exact Nat.le_refl _⟩, ⟨spec_l20Rd_pick.s0 HI0.out⟩, ⟨spec_l20Rd_pick.s1 HK.out⟩, ⟨spec_l20Rd_pick.s2 HB.out HI0.out⟩⟩
  ·rw [if_neg c5] at H; have c5b0 : decide (a1 < 1) = false := decide_eq_false c5; clear c5; (first | rw [c5b0] | (simp only [i64_w, i32_w]; rw [c5b0]) | skip); have H' := Aside0.mk H; clear H; obtain ⟨ASz6_0, cSz6_0, HGz6, hgz6, HSz6_0⟩ := HI0.out; have z6a := cellS72_0 HGz6; have z6b := cellS72_1 HGz6; have f6b := blk_frozen HGz6 1; clear HGz6 hgz6; go_wp2; (repeat (go_quiet (fail); try go_wp2)); go_meet; case rel => exact ⟨_, (((s0_0.length : Int) == 0)), zfe, H', ⟨by first | omega | exact Nat.le_refl _⟩, ⟨spec_l20Rd_pick.s0 HI0.out⟩, ⟨spec_l20Rd_pick.s1 HK.out⟩, ⟨spec_l20Rd_pick.s2 HB.out HI0.out⟩⟩
 case rest =>
  clear HC3; obtain ⟨kq, x24_2, rfl, HA, HJ2, HI0, HK, HB⟩ := hcut
  cases kq with
  | zero => exact absurd HA.out (by simp [spec_l20Rd_pick.j0])
  | succ kj2 =>
   have H := HA.out; clear HA; simp only [spec_l20Rd_pick.j0] at H; by_cases c7 : x24_2 = true
   ·subst c7; rw [if_pos rfl] at H; simp only [Option.some.injEq, Prod.mk.injEq] at H; obtain ⟨rfl, rfl⟩ := H; go_wp2; (repeat (go_quiet (fail); try go_wp2)); go_ret; exact ⟨fe, spec_l20Rd_pick.s0 HI0.out, spec_l20Rd_pick.s2 HB.out HI0.out, spec_l20Rd_pick.s1 HK.out⟩
   ·replace c7 := Bool.eq_false_iff.mpr c7; subst c7; rw [if_neg zft] at H; by_cases c8 : (wrap64 ((wrap64 (s0_1 + 1)) - 1)) < (s0_0.length : Int)
    ·rw [if_pos c8] at H; have c8b0 : decide ((wrap64 ((wrap64 (s0_1 + 1)) - 1)) < (s0_0.length : Int)) = true := decide_eq_true c8; clear c8; obtain ⟨ji9, hji9⟩ : ∃ j_ : Int, (wrap64 ((wrap64 (s0_1 + 1)) - 1)) = j_ := ⟨_, rfl⟩; (replace H : (if 0 ≤ (ji9) then (if a1 = 0 then (none) else (some (Int.tmod (wrap64 (rd s0_0 (ji9))) a1, (wrap64 (s0_1 + 1))))) else (none)) = some (r1, r2) := by first | (rw [hji9] at H; exact H) | (simp only [hji9] at H ⊢; exact H)); (try rw [hji9] at c8b0); have hji9w : (IntKind.i64.wrap ((wrap64 (s0_1 + 1)) - 1)) = ji9 := (i64_w _).trans hji9; by_cases c10 : 0 ≤ (ji9)
     ·rw [if_pos c10] at H; have c10b0 : decide (0 ≤ (ji9)) = true := decide_eq_true c10; clear c10; by_cases c11 : a1 = 0
      ·rw [if_pos c11] at H; exact absurd H (by simp)
      ·rw [if_neg c11] at H; have c11b0 : (a1 == 0) = false := beq_eq_false_iff_ne.mpr c11; have c11b1 : (a1 != 0) = true := bne_iff_ne.mpr c11; simp only [Option.some.injEq, Prod.mk.injEq] at H; obtain ⟨rfl, rfl⟩ := H; obtain ⟨ASz12_0, cSz12_0, HGz12, hgz12, HSz12_0⟩ := HI0.out; have z12a := cellS72_0 HGz12; have z12b := cellS72_1 HGz12; have f12b := blk_frozen HGz12 1; clear HGz12 hgz12; have p161 : 0 ≤ ((ji9) : Int) := zda; have q161 : (ji9) < (s0_0.length : Int) := zda; obtain ⟨ad161, e161, hx161_0⟩ := Kd.at_int HSz12_0 (ji9) p161 q161; cases e161; replace hx161_0 := pw_cell_below HB.out hx161_0; replace p161 := eq_true p161; replace q161 := eq_true q161; go_wp2; (repeat (go_quiet (fail); try go_wp2)); go_ret; exact ⟨by first | rfl | (simp [errW_none, errW_some] <;> rfl) | (simp only [← hji9]; first | rfl | (simp [errW_none, errW_some] <;> rfl)) | (simp [*, errW_none, errW_some] <;> rfl) | (simp only [IntKind.wrap_u8, show ∀ n_ : Int, wrap64 (n_ % 256) = n_ % 256 from fun n_ => by unfold wrap64; omega]; rfl), spec_l20Rd_pick.s0 HI0.out, spec_l20Rd_pick.s2 HB.out HI0.out, spec_l20Rd_pick.s1 HK.out⟩
     ·rw [if_neg c10] at H; exact absurd H (by simp)
    ·rw [if_neg c8] at H; have c8b0 : decide ((wrap64 ((wrap64 (s0_1 + 1)) - 1)) < (s0_0.length : Int)) = false := decide_eq_false c8; clear c8; by_cases c13 : (s0_0.length : Int) = 0
     ·rw [if_pos c13] at H; exact absurd H (by simp)
     ·rw [if_neg c13] at H; have c13b0 : ((s0_0.length : Int) == 0) = false := beq_eq_false_iff_ne.mpr c13; have c13b1 : ((s0_0.length : Int) != 0) = true := bne_iff_ne.mpr c13; (have c13b2 : ¬ (s0_0 = []) := fun h_ => c13 (by rw [h_]; rfl)); obtain ⟨ji14, hji14⟩ : ∃ j_ : Int, (Int.tmod (wrap64 ((wrap64 (s0_1 + 1)) - 1)) (s0_0.length : Int)) = j_ := ⟨_, rfl⟩; (replace H : (if 0 ≤ (ji14) then (if (ji14) < (s0_0.length : Int) then (if 0 ≤ (Int.tmod (wrap64 ((wrap64 ((wrap64 ((wrap64 (s0_1 + 1)) - 1)) * 7)) + 3)) (s0_0.length : Int)) then (if (Int.tmod (wrap64 ((wrap64 ((wrap64 ((wrap64 (s0_1 + 1)) - 1)) * 7)) + 3)) (s0_0.length : Int)) < (s0_0.length : Int) then (if a1 = 0 then (none) else (some (Int.tmod (Go.bits .xor .i64 (wrap64 ((wrap64 ((wrap64 ((wrap64 ((wrap64 (rd s0_0 (ji14))) * 131)) + (wrap64 ((wrap64 (rd s0_0 (Int.tmod (wrap64 ((wrap64 ((wrap64 ((wrap64 (s0_1 + 1)) - 1)) * 7)) + 3)) (s0_0.length : Int)))) * 1117)))) + (wrap64 ((wrap64 ((wrap64 (s0_1 + 1)) - 1)) * 29)))) + (wrap64 ((wrap64 (Int.tdiv (wrap64 ((wrap64 (s0_1 + 1)) - 1)) (s0_0.length : Int))) * 53)))) (wrap64 (Int.tdiv (wrap64 ((wrap64 ((wrap64 ((wrap64 ((wrap64 (rd s0_0 (ji14))) * 131)) + (wrap64 ((wrap64 (rd s0_0 (Int.tmod (wrap64 ((wrap64 ((wrap64 ((wrap64 (s0_1 + 1)) - 1)) * 7)) + 3)) (s0_0.length : Int)))) * 1117)))) + (wrap64 ((wrap64 ((wrap64 (s0_1 + 1)) - 1)) * 29)))) + (wrap64 ((wrap64 (Int.tdiv (wrap64 ((wrap64 (s0_1 + 1)) - 1)) (s0_0.length : Int))) * 53)))) 64))) a1, (wrap64 (s0_1 + 1))))) else (none)) else (none)) else (none)) else (none)) = some (r1, r2) := by first | (rw [hji14] at H; exact H) | (simp only [hji14] at H ⊢; exact H)); by_cases c15 : 0 ≤ (ji14)
      ·rw [if_pos c15] at H; have c15b0 : decide (0 ≤ (ji14)) = true := decide_eq_true c15; clear c15; by_cases c16 : (ji14) < (s0_0.length : Int)
       ·rw [if_pos c16] at H; have c16b0 : decide ((ji14) < (s0_0.length : Int)) = true := decide_eq_true c16; clear c16; obtain ⟨ji17, hji17⟩ : ∃ j_ : Int, (Int.tmod (wrap64 ((wrap64 ((wrap64 ((wrap64 (s0_1 + 1)) - 1)) * 7)) + 3)) (s0_0.length : Int)) = j_ := ⟨_, rfl⟩; (replace H : (if 0 ≤ (ji17) then (if (ji17) < (s0_0.length : Int) then (if a1 = 0 then (none) else (some (Int.tmod (Go.bits .xor .i64 (wrap64 ((wrap64 ((wrap64 ((wrap64 ((wrap64 (rd s0_0 (ji14))) * 131)) + (wrap64 ((wrap64 (rd s0_0 (ji17))) * 1117)))) + (wrap64 ((wrap64 ((wrap64 (s0_1 + 1)) - 1)) * 29)))) + (wrap64 ((wrap64 (Int.tdiv (wrap64 ((wrap64 (s0_1 + 1)) - 1)) (s0_0.length : Int))) * 53)))) (wrap64 (Int.tdiv (wrap64 ((wrap64 ((wrap64 ((wrap64 ((wrap64 (rd s0_0 (ji14))) * 131)) + (wrap64 ((wrap64 (rd s0_0 (ji17))) * 1117)))) + (wrap64 ((wrap64 ((wrap64 (s0_1 + 1)) - 1)) * 29)))) + (wrap64 ((wrap64 (Int.tdiv (wrap64 ((wrap64 (s0_1 + 1)) - 1)) (s0_0.length : Int))) * 53)))) 64))) a1, (wrap64 (s0_1 + 1))))) else (none)) else (none)) = some (r1, r2) := by first | (rw [hji17] at H; exact H) | (simp only [hji17] at H ⊢; exact H)); by_cases c18 : 0 ≤ (ji17)
        ·rw [if_pos c18] at H; have c18b0 : decide (0 ≤ (ji17)) = true := decide_eq_true c18; clear c18; by_cases c19 : (ji17) < (s0_0.length : Int)
         ·rw [if_pos c19] at H; have c19b0 : decide ((ji17) < (s0_0.length : Int)) = true := decide_eq_true c19; clear c19; by_cases c20 : a1 = 0
          ·rw [if_pos c20] at H; exact absurd H (by simp)
          ·rw [if_neg c20] at H; have c20b0 : (a1 == 0) = false := beq_eq_false_iff_ne.mpr c20; have c20b1 : (a1 != 0) = true := bne_iff_ne.mpr c20; simp only [Option.some.injEq, Prod.mk.injEq] at H; obtain ⟨rfl, rfl⟩ := H; obtain ⟨ASz21_0, cSz21_0, HGz21, hgz21, HSz21_0⟩ := HI0.out; have z21a := cellS72_0 HGz21; have z21b := cellS72_1 HGz21; have f21b := blk_frozen HGz21 1; clear HGz21 hgz21; have p162 : 0 ≤ ((ji14) : Int) := zda; have q162 : (ji14) < (s0_0.length : Int) := zda; obtain ⟨ad162, e162, hx162_0⟩ := Kd.at_int HSz21_0 (ji14) p162 q162; cases e162; replace hx162_0 := pw_cell_below HB.out hx162_0; replace p162 := eq_true p162; replace q162 := eq_true q162; have p163 : 0 ≤ ((ji17) : Int) := zda; have q163 : (ji17) < (s0_0.length : Int) := zda; obtain ⟨ad163, e163, hx163_0⟩ := Kd.at_int HSz21_0 (ji17) p163 q163; (obtain rfl : ad162 = ad163 := (by injection e163)); replace hx163_0 := pw_cell_below HB.out hx163_0; replace p163 := eq_true p163; replace q163 := eq_true q163; go_wp2; (repeat (go_quiet (fail); try go_wp2)); go_ret; exact ⟨by first | rfl | (simp [errW_none, errW_some] <;> rfl) | (simp only [← hji14, ← hji17]; first | rfl | (simp [errW_none, errW_some] <;> rfl)) | (simp [*, errW_none, errW_some] <;> rfl) | (simp only [IntKind.wrap_u8, show ∀ n_ : Int, wrap64 (n_ % 256) = n_ % 256 from fun n_ => by unfold wrap64; omega]; rfl), spec_l20Rd_pick.s0 HI0.out, spec_l20Rd_pick.s2 HB.out HI0.out, spec_l20Rd_pick.s1 HK.out⟩
         ·rw [if_neg c19] at H; exact absurd H (by simp)
        ·rw [if_neg c18] at H; exact absurd H (by simp)
       ·rw [if_neg c16] at H; exact absurd H (by simp)
      ·rw [if_neg c15] at H; exact absurd H (by simp)
/-! ### spec_l4Place: function 74 -/
def spec_l4Place.l0 : Nat → List (S47) → ByteArray → Int → Option (Int)
  | 0, _, _, _ => none
  | k + 1, a, b, c => if c < (a.length : Int) then (if 0 ≤ c then (if (Op.bytesLess (((rd_T47 a c).f0).toList) b.toList) = true then (spec_l4Place.l0 k a b (wrap64 (c + 1))) else (some c)) else (none)) else (some c)
def spec_l4Place.f (k : Nat) (l0 : List (S47)) (a1 : ByteArray) : Option (Int) := spec_l4Place.l0 k l0 a1 0
theorem spec_l4Place.mono_l : ∀ k, (∀ y0 y1 y2, LeO (spec_l4Place.l0 k y0 y1 y2) (spec_l4Place.l0 (k + 1) y0 y1 y2))
  | 0 => fun _ _ _ r h => by simp [spec_l4Place.l0] at h
  | k + 1 => by
    have ih0 := spec_l4Place.mono_l k
    · intro y0 y1 y2
      unfold spec_l4Place.l0
      repeat' with_reducible first | exact ih0 _ _ _ | exact LeO.refl _ | exact LeO.none _ | refine LeO.ite ?_ ?_ | refine LeO.bind ?_ (fun _ => ?_)
theorem spec_l4Place.mono : ∀ a0 a1 k, LeO (spec_l4Place.f k a0 a1) (spec_l4Place.f (k + 1) a0 a1) := by
 intro a0 a1 k; have ih0 := spec_l4Place.mono_l k; unfold spec_l4Place.f; repeat' with_reducible first | exact ih0 _ _ _ | exact LeO.refl _ | exact LeO.none _ | refine LeO.ite ?_ ?_ | refine LeO.bind ?_ (fun _ => ?_)
set_option maxHeartbeats 8000000 in
set_option maxRecDepth 100000 in
theorem spec_l4Place.calls (k : Nat) (A0 : Option Addr) (c0 : Nat) (l0 : List (S47)) (a1 : ByteArray) (r : Int) (w : World) (hr0 : Kd.C k47 w A0 l0.length l0) (hc0 : l0.length ≤ c0) (h : spec_l4Place.f k l0 a1 = some r) :
    Calls Tryd.prog 74 #[.slice A0 l0.length c0, .string a1] w fun e w' => e = .returned (.int .i64 r) ∧ Drawn0 w w' := by
 have HR0 := Aside0.mk hr0; have HC0 := Aside0.mk hc0; clear hr0 hc0; unfold spec_l4Place.f at h; have H := h; clear h; have H' := Aside0.mk H; clear H; go_enter Tryd.func74, Tryd.ntmps74; go_wp2; go_loopg [5] k (fun kq v5 w' => ∃ (x5_1 : Int), v5 = .int .i64 x5_1 ∧ Aside0 (spec_l4Place.l0 kq l0 a1 x5_1 = some r) ∧ Aside0 (kq ≤ k) ∧ Drawn0 w w'); case atStart => exact ⟨(0), zfe, H', ⟨Nat.le_refl _⟩, zdr⟩
 case round =>
  clear H'; (try clear p2); obtain ⟨x5_1, rfl, HA, HK1, ⟨m1, rfl⟩⟩ := hrel
  cases gk with
  | zero => exact absurd HA.out (by simp [spec_l4Place.l0])
  | succ k1 =>
   have H := HA.out; clear HA; simp only [spec_l4Place.l0] at H; by_cases c3 : x5_1 < (l0.length : Int)
   ·rw [if_pos c3] at H; have c3b0 : decide (x5_1 < (l0.length : Int)) = true := decide_eq_true c3; clear c3; by_cases c4 : 0 ≤ x5_1
    ·rw [if_pos c4] at H; have c4b0 : decide (0 ≤ x5_1) = true := decide_eq_true c4; clear c4; by_cases c5 : (Op.bytesLess (((rd_T47 l0 x5_1).f0).toList) a1.toList) = true
     ·rw [if_pos c5] at H; have c5b0 : (Op.bytesLess (((rd_T47 l0 x5_1).f0).toList) a1.toList) = true := c5; clear c5; have H' := Aside0.mk H; clear H; have p164 : 0 ≤ (x5_1 : Int) := zda; have q164 : x5_1 < (l0.length : Int) := zda; obtain ⟨ad164, e164, hx164_0, hx164_1⟩ := at_T47 HR0.out x5_1 p164 q164; cases e164; replace p164 := eq_true p164; replace q164 := eq_true q164; go_wp2; go_roundg k1; (case measure => have := HK1.out; omega); case rel => exact ⟨(wrap64 (x5_1 + 1)), zfe, H', ⟨by have := HK1.out; omega⟩, zdr⟩
     ·rw [if_neg c5] at H; (have c5b0 : (Op.bytesLess (((rd_T47 l0 x5_1).f0).toList) a1.toList) = false := by simpa using c5); clear c5; obtain rfl := Option.some.inj H; have p164 : 0 ≤ (x5_1 : Int) := zda; have q164 : x5_1 < (l0.length : Int) := zda; obtain ⟨ad164, e164, hx164_0, hx164_1⟩ := at_T47 HR0.out x5_1 p164 q164; cases e164; replace p164 := eq_true p164; replace q164 := eq_true q164; go_wp2; go_ret; exact ⟨zfe, zdr⟩
    ·rw [if_neg c4] at H; exact absurd H (by simp)
   ·rw [if_neg c3] at H; have c3b0 : decide (x5_1 < (l0.length : Int)) = false := decide_eq_false c3; clear c3; obtain rfl := Option.some.inj H; go_wp2; go_ret; exact ⟨zfe, zdr⟩
end Go.Proofs.YtagknifdfpjlbaaDoor.PFnReadPairs
