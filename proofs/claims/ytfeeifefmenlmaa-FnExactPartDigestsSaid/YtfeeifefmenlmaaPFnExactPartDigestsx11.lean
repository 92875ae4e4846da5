-- Written by a program of this session, in the manner of the kit's print (wip/pp.py): functions and their contracts.
import Derived.Test.YtfeeifefmenlmaaPFnExactPartDigestsx0
import Derived.Test.YtfeeifefmenlmaaPFnExactPartDigestsx1
import Derived.Test.YtfeeifefmenlmaaPFnExactPartDigestsx5
import Derived.Test.YtfeeifefmenlmaaPFnExactPartDigestsx9
import Derived.Test.YtfeeifefmenlmaaPFnExactPartDigestsx10
namespace Go.Proofs.Ytfeeifefmenlmaa.PFnExactPartDigests
open Go.RowKit Go.Proofs.YtfeeifefmenlmaaW.PrintWords Go.Proofs.YtfeeifefmenlmaaW.PrintLast Go.Proofs.YtfeeifefmenlmaaW.PrintMore
attribute [local go_sem] binOp_leq_str binOp_gtr_str binOp_geq_str max2_int min2_int max_two min_two max_three min_three max_four min_four   -- for this text's walks alone
set_option linter.unusedVariables false
set_option linter.unusedSimpArgs false

/-! ### laws_markIntS: function 46 -/
def laws_markIntS.l0 : Nat → List Int → Int → Int → Option (Int × List Int)
  | 0, _, _, _ => none
  | k + 1, x0, x1, x5 => if x5 < (x0.length : Int) then (if 0 ≤ x5 then (laws_markIntS.l0 k (x0.set (x5 : Int).toNat x1) (wrap64 (x1 + 1)) (wrap64 (x5 + 1))) else (none)) else (some (x1, x0))
def laws_markIntS.f (k : Nat) (l0 : List Int) (a1 : Int) : Option (Int × List Int) := laws_markIntS.l0 k l0 a1 0
theorem laws_markIntS.mono_l : ∀ k, (∀ y0 y1 y2, LeO (laws_markIntS.l0 k y0 y1 y2) (laws_markIntS.l0 (k + 1) y0 y1 y2))
  | 0 => fun _ _ _ r h => by simp [laws_markIntS.l0] at h
  | k + 1 => by
    have ih0 := laws_markIntS.mono_l k
    · intro y0 y1 y2
      unfold laws_markIntS.l0
      repeat' first
      | (with_reducible exact ih0 _ _ _)
      | (with_reducible exact LeO.refl _)
      | (with_reducible exact LeO.none _)
      | (with_reducible refine LeO.ite ?_ ?_)
      | (with_reducible refine LeO.bind ?_ (fun _ => ?_))
      | exact ih0 _ _ _
      | exact LeO.none _
      | refine LeO.ite ?_ ?_
      | refine LeO.bind ?_ (fun _ => ?_)
theorem laws_markIntS.mono : ∀ a0 a1 k, LeO (laws_markIntS.f k a0 a1) (laws_markIntS.f (k + 1) a0 a1) := by
  intro a0 a1 k
  have ih0 := laws_markIntS.mono_l k
  unfold laws_markIntS.f
  repeat' first
      | (with_reducible exact ih0 _ _ _)
      | (with_reducible exact LeO.refl _)
      | (with_reducible exact LeO.none _)
      | (with_reducible refine LeO.ite ?_ ?_)
      | (with_reducible refine LeO.bind ?_ (fun _ => ?_))
      | exact ih0 _ _ _
      | exact LeO.none _
      | refine LeO.ite ?_ ?_
      | refine LeO.bind ?_ (fun _ => ?_)
theorem laws_markIntS.s0 {P0 Q : Prop} (B0 : P0) (h : P0 → Q := by (intro b0_; repeat (first | (with_reducible first | exact b0_ | apply Kept.alloc | apply Kept.drewN | apply Kept.drew) | exact b0_))) : Q := h B0
set_option maxHeartbeats 8000000 in
set_option maxRecDepth 100000 in
theorem laws_markIntS.calls (k : Nat) (P0_ : Nat → Prop) (u9000_ : Value) (l0 : List Int) (a1 : Int) (r1 : Int) (r2 : List Int) (w0 w : World) (hB : Below w0.heap.size w0 w) (ho0 : Kd.R (Kd.int .i64) 3 w w0.heap.size P0_ u9000_ l0) (h : laws_markIntS.f k l0 a1 = some (r1, r2)) :
    Calls Try.prog 46 #[u9000_, .int .i64 a1] w fun e w' => e = .returned (.int .i64 r1) ∧ Kd.R (Kd.int .i64) 3 w' w0.heap.size (fun k_ => (P0_ k_ ∨ w.heap.size ≤ k_)) u9000_ r2 ∧ Below w0.heap.size w0 w' ∧ Kept w w' (fun k_ => P0_ k_) := by
  have HO0 := Aside0.mk (show Kd.R (Kd.int .i64) 3 w w0.heap.size (fun k_ => (P0_ k_ ∨ w.heap.size ≤ k_)) u9000_ l0 from Kd.R_mono ho0 (fun k_ hk => (.inl hk)))
  have HK := Aside0.mk (Kept.refl w (fun k_ => P0_ k_))
  have HW0 := Aside0.mk hB.size
  have HB := Aside0.mk hB
  clear hB
  have H : (laws_markIntS.l0 k l0 a1 0) = some (r1, r2) := h
  clear h
  have H' := Aside0.mk H
  clear H
  go_enter Try.func46, Try.ntmps46
  go_wp2
  go_loopg [1, 5] k (fun kq v1 v5 w' => ∃ (x0_1 : List Int) (x1_1 : Int) (x5_1 : Int), v1 = .int .i64 x1_1 ∧ v5 = .int .i64 x5_1 ∧ Aside0 (laws_markIntS.l0 kq x0_1 x1_1 x5_1 = some (r1, r2)) ∧ Aside0 (kq ≤ k) ∧ Aside0 (Kd.R (Kd.int .i64) 3 w' w0.heap.size (fun k_ => (P0_ k_ ∨ w.heap.size ≤ k_)) u9000_ x0_1) ∧ Aside0 (Kept w w' (fun k_ => P0_ k_)) ∧ Aside0 (Below w0.heap.size w0 w'))
  case atStart => exact ⟨(l0), (a1), (0), (by first | rfl | (simp; done) | (simp [*]; done) | (simp [bne_nil_, beq_nil_]; done)), (by first | rfl | (simp; done) | (simp [*]; done) | (simp [bne_nil_, beq_nil_]; done)), H', ⟨Nat.le_refl _⟩, ⟨by (with_reducible repeat (first | apply Kd.R_alloc | apply Kd.R_drewN | apply Kd.R_drew)); exact HO0.out⟩, ⟨laws_markIntS.s0 HK.out⟩, ⟨bp HB.out⟩⟩
  case round =>
    clear H'
    try clear p2
    obtain ⟨x0_1, x1_1, x5_1, rfl, rfl, HA, HK1, HO_0, HK, HB⟩ := hrel
    cases gk with
    | zero => exact absurd HA.out (by simp [laws_markIntS.l0])
    | succ k1 =>
      have H := HA.out
      clear HA
      simp only [laws_markIntS.l0] at H
      by_cases c3 : x5_1 < (x0_1.length : Int)
      · rw [if_pos c3] at H
        have c3b0 : decide (x5_1 < (x0_1.length : Int)) = true := decide_eq_true c3
        clear c3
        by_cases c4 : 0 ≤ x5_1
        · rw [if_pos c4] at H
          have c4b0 : decide (0 ≤ x5_1) = true := decide_eq_true c4
          clear c4
          obtain ⟨y305, hy305⟩ : ∃ y_ : List Int, y_ = (x0_1.set (x5_1 : Int).toNat x1_1) := ⟨_, rfl⟩
          replace H : (laws_markIntS.l0 k1 y305 (wrap64 (x1_1 + 1)) (wrap64 (x5_1 + 1))) = some (r1, r2) := by first | (rw [hy305]; with_reducible exact H) | (have H2_ := (Option.bind_some _ _).symm.trans H; rw [hy305]; with_reducible exact H2_) | (have H2_ := (Option.bind_some _ _).symm.trans H; with_reducible exact H2_) | with_reducible exact H | (rw [hy305]; exact H) | exact H
          have Ny305 := Aside0.mk hy305
          clear hy305
          have H' := Aside0.mk H
          clear H
          obtain ⟨Ao6, co6, eo6⟩ := Kd.R_slice HO_0.out
          subst eo6
          have p5 : 0 ≤ (x5_1 : Int) := of_decide_eq_true (by first | (with_reducible assumption) | assumption)
          have q5 : (x5_1 : Int) < ((x0_1.length : Int) : Int) := of_decide_eq_true (by first | (with_reducible assumption) | assumption)
          obtain ⟨go5, co5, eo5, gb5, gl5, cl5, HG5⟩ := Kd.R_form HO_0.out (by omega)
          (first | cases eo5 | (injection eo5 with ea_ en_ ec_; (first | subst ea_ | (injection ea_ with ea_; subst ea_)); subst ec_; clear en_))
          have GB5 := Aside0.mk gb5
          have GG5 := Aside0.mk HG5
          clear gb5 gl5 HG5
          have HMgo5 := Aside0.mk (show (P0_ go5 ∨ w.heap.size ≤ go5) from (HO_0.out.1 _ rfl))
          obtain ⟨hx5_0, hf5_0⟩ := Kd.R_celln 0 HO_0.out (x5_1 : Int) p5 q5
          replace p5 := eq_true p5
          replace q5 := eq_true q5
          have HP7 := Kd.R_putg HO_0.out (x5_1 : Int) x1_1
          go_wp2_with (first | ((with_reducible refine gate_store (t := 3) (p := 15) rfl ?_); refine store_event (t := 3) (p := 15) (v := ?vo_w8) (w1 := (wr.setCell ⟨go5, (x5_1 : Int).toNat, none⟩ (.int .i64 x1_1))) ?hg ?ho ?hn ?hr ?_; (case ho => rfl); (case hg => rfl); (case hn => rfl); (case hr => first | (go_simp; done) | (go_simp; rfl)); intro w8 hw; have hg : wr.grownBy w8 (some go5) := (by rw [hw]; exact HP7.2); have hp_ : Kd.R (Kd.int .i64) 3 w8 w0.heap.size (fun k_ => (P0_ k_ ∨ w.heap.size ≤ k_)) (.slice (some ⟨go5, 0, none⟩) x0_1.length co6) y305 := (by rw [hw, Ny305.out]; exact HP7.1); clear HP7; have n0_ := Aside0.mk (hp_); have n1_ := Aside0.mk ((by rw [hw]; exact below_set (HB.out) GB5.out : Below w0.heap.size w0 w8)); have n2_ := Aside0.mk (Kept.of_grown (S := (fun k_ => P0_ k_)) hg (laws_markIntS.s0 HK.out) (fun k_ e_ => (HO_0.out.1 k_ e_))); clear HO_0; clear HB; clear HK; have HO_0 := n0_; have HB := n1_; have HK := n2_; clear n0_ n1_ n2_; clear hg hw hp_))
          go_roundg k1
          case measure => have := HK1.out; omega
          case rel => exact ⟨(y305), (wrap64 (x1_1 + 1)), (wrap64 (x5_1 + 1)), (by first | rfl | (simp; done) | (simp [*]; done) | (simp [bne_nil_, beq_nil_]; done)), (by first | rfl | (simp; done) | (simp [*]; done) | (simp [bne_nil_, beq_nil_]; done)), H', ⟨by have := HK1.out; omega⟩, ⟨by (with_reducible repeat (first | apply Kd.R_alloc | apply Kd.R_drewN | apply Kd.R_drew)); exact HO_0.out⟩, ⟨laws_markIntS.s0 HK.out⟩, ⟨bp HB.out⟩⟩
        · rw [if_neg c4] at H
          exact absurd H (by simp)
      · rw [if_neg c3] at H
        have c3b0 : decide (x5_1 < (x0_1.length : Int)) = false := decide_eq_false c3
        clear c3
        simp only [Option.some.injEq, Prod.mk.injEq] at H
        obtain ⟨rfl, rfl⟩ := H
        obtain ⟨Ao9, co9, eo9⟩ := Kd.R_slice HO_0.out
        subst eo9
        go_wp2
        go_ret
        exact ⟨fe, by (with_reducible repeat (first | apply Kd.R_alloc | apply Kd.R_drewN | apply Kd.R_drew)); exact HO_0.out, bp HB.out, laws_markIntS.s0 HK.out⟩

/-! ### laws_heldIntS: function 47 -/
def laws_heldIntS.l0 : Nat → List Int → Int → Int → Option (Int)
  | 0, _, _, _ => none
  | k + 1, x0, x1, x5 => if x5 < (x0.length : Int) then (if 0 ≤ x5 then (if (rd x0 x5) = x1 then (laws_heldIntS.l0 k x0 (wrap64 (x1 + 1)) (wrap64 (x5 + 1))) else (some (-1))) else (none)) else (some x1)
def laws_heldIntS.f (k : Nat) (l0 : List Int) (a1 : Int) : Option (Int) := laws_heldIntS.l0 k l0 a1 0
theorem laws_heldIntS.mono_l : ∀ k, (∀ y0 y1 y2, LeO (laws_heldIntS.l0 k y0 y1 y2) (laws_heldIntS.l0 (k + 1) y0 y1 y2))
  | 0 => fun _ _ _ r h => by simp [laws_heldIntS.l0] at h
  | k + 1 => by
    have ih0 := laws_heldIntS.mono_l k
    · intro y0 y1 y2
      unfold laws_heldIntS.l0
      repeat' first
      | (with_reducible exact ih0 _ _ _)
      | (with_reducible exact LeO.refl _)
      | (with_reducible exact LeO.none _)
      | (with_reducible refine LeO.ite ?_ ?_)
      | (with_reducible refine LeO.bind ?_ (fun _ => ?_))
      | exact ih0 _ _ _
      | exact LeO.none _
      | refine LeO.ite ?_ ?_
      | refine LeO.bind ?_ (fun _ => ?_)
theorem laws_heldIntS.mono : ∀ a0 a1 k, LeO (laws_heldIntS.f k a0 a1) (laws_heldIntS.f (k + 1) a0 a1) := by
  intro a0 a1 k
  have ih0 := laws_heldIntS.mono_l k
  unfold laws_heldIntS.f
  repeat' first
      | (with_reducible exact ih0 _ _ _)
      | (with_reducible exact LeO.refl _)
      | (with_reducible exact LeO.none _)
      | (with_reducible refine LeO.ite ?_ ?_)
      | (with_reducible refine LeO.bind ?_ (fun _ => ?_))
      | exact ih0 _ _ _
      | exact LeO.none _
      | refine LeO.ite ?_ ?_
      | refine LeO.bind ?_ (fun _ => ?_)
set_option maxHeartbeats 8000000 in
set_option maxRecDepth 100000 in
theorem laws_heldIntS.calls (k : Nat) (A0 : Option Addr) (c0 : Nat) (l0 : List Int) (a1 : Int) (r : Int) (w : World) (hr0 : Kd.C (Kd.int .i64) w A0 l0.length l0) (hc0 : l0.length ≤ c0) (h : laws_heldIntS.f k l0 a1 = some r) :
    Calls Try.prog 47 #[.slice A0 l0.length c0, .int .i64 a1] w fun e w' => e = .returned (.int .i64 r) ∧ Drawn0 w w' := by
  have HR0 := Aside0.mk hr0
  have HC0 := Aside0.mk hc0
  clear hr0 hc0
  have H : (laws_heldIntS.l0 k l0 a1 0) = some r := h
  clear h
  have H' := Aside0.mk H
  clear H
  go_enter Try.func47, Try.ntmps47
  go_wp2
  go_loopg [1, 5] k (fun kq v1 v5 w' => ∃ (x1_1 : Int) (x5_1 : Int), v1 = .int .i64 x1_1 ∧ v5 = .int .i64 x5_1 ∧ Aside0 (laws_heldIntS.l0 kq l0 x1_1 x5_1 = some r) ∧ Aside0 (kq ≤ k) ∧ Drawn0 w w')
  case atStart => exact ⟨(a1), (0), (by first | rfl | (simp; done) | (simp [*]; done) | (simp [bne_nil_, beq_nil_]; done)), (by first | rfl | (simp; done) | (simp [*]; done) | (simp [bne_nil_, beq_nil_]; done)), H', ⟨Nat.le_refl _⟩, by repeat (first | exact Drawn0.refl _ | apply Drawn0.step)⟩
  case round =>
    clear H'
    try clear p2
    obtain ⟨x1_1, x5_1, rfl, rfl, HA, HK1, ⟨m1, rfl⟩⟩ := hrel
    cases gk with
    | zero => exact absurd HA.out (by simp [laws_heldIntS.l0])
    | succ k1 =>
      have H := HA.out
      clear HA
      simp only [laws_heldIntS.l0] at H
      by_cases c3 : x5_1 < (l0.length : Int)
      · rw [if_pos c3] at H
        have c3b0 : decide (x5_1 < (l0.length : Int)) = true := decide_eq_true c3
        clear c3
        by_cases c4 : 0 ≤ x5_1
        · rw [if_pos c4] at H
          have c4b0 : decide (0 ≤ x5_1) = true := decide_eq_true c4
          clear c4
          by_cases c5 : (rd l0 x5_1) = x1_1
          · rw [if_pos c5] at H
            have c5b0 : ((rd l0 x5_1) == x1_1) = true := beq_iff_eq.mpr c5
            have c5b1 : ((rd l0 x5_1) != x1_1) = false := bne_eq_false_iff_eq.mpr c5
            clear c5
            have H' := Aside0.mk H
            clear H
            have p306 : 0 ≤ (x5_1 : Int) := of_decide_eq_true (by first | (with_reducible assumption) | assumption)
            have q306 : x5_1 < (l0.length : Int) := of_decide_eq_true (by first | (with_reducible assumption) | assumption)
            obtain ⟨ad306, e306, hx306_0⟩ := Kd.at_int HR0.out x5_1 p306 q306
            cases e306
            replace p306 := eq_true p306
            replace q306 := eq_true q306
            go_wp2
            go_roundg k1
            case measure => have := HK1.out; omega
            case rel => exact ⟨(wrap64 (x1_1 + 1)), (wrap64 (x5_1 + 1)), (by first | rfl | (simp; done) | (simp [*]; done) | (simp [bne_nil_, beq_nil_]; done)), (by first | rfl | (simp; done) | (simp [*]; done) | (simp [bne_nil_, beq_nil_]; done)), H', ⟨by have := HK1.out; omega⟩, by repeat (first | exact Drawn0.refl _ | apply Drawn0.step)⟩
          · rw [if_neg c5] at H
            have c5b0 : ((rd l0 x5_1) == x1_1) = false := beq_eq_false_iff_ne.mpr c5
            have c5b1 : ((rd l0 x5_1) != x1_1) = true := bne_iff_ne.mpr c5
            obtain rfl := Option.some.inj H
            have p306 : 0 ≤ (x5_1 : Int) := of_decide_eq_true (by first | (with_reducible assumption) | assumption)
            have q306 : x5_1 < (l0.length : Int) := of_decide_eq_true (by first | (with_reducible assumption) | assumption)
            obtain ⟨ad306, e306, hx306_0⟩ := Kd.at_int HR0.out x5_1 p306 q306
            cases e306
            replace p306 := eq_true p306
            replace q306 := eq_true q306
            go_wp2
            go_ret
            exact ⟨by first | rfl | (simp; done) | (simp [*]; done) | (simp [bne_nil_, beq_nil_]; done), by repeat (first | exact Drawn0.refl _ | apply Drawn0.step)⟩
        · rw [if_neg c4] at H
          exact absurd H (by simp)
      · rw [if_neg c3] at H
        have c3b0 : decide (x5_1 < (l0.length : Int)) = false := decide_eq_false c3
        clear c3
        obtain rfl := Option.some.inj H
        go_wp2
        go_ret
        exact ⟨by first | rfl | (simp; done) | (simp [*]; done) | (simp [bne_nil_, beq_nil_]; done), by repeat (first | exact Drawn0.refl _ | apply Drawn0.step)⟩

/-! ### laws_FnExactPartDigests: function 7 -/
def laws_FnExactPartDigests.j0 : Nat → List (S104) → List (S121) → List Int → List Int → Bool → Option (Bool)
  | 0, _, _, _, _, _ => none
  | k + 1, x0, x1, x6, x9, x63 => if x63 = true then (some false) else ((laws_markIntS.f k x9 1).bind fun bt341 => ((laws_heldIntS.f k bt341.2 1).bind fun t343 => (if t343 < 0 then (some false) else (if t343 = bt341.1 then ((laws_toPairS.f k x0).bind fun t344 => ((laws_toIntervalS.f k x1).bind fun t347 => ((impl_PartDigests.f k t344 t347).bind fun t350 => ((laws_eqIntS.f k t350 x6).bind fun t353 => (if t353 = true then ((laws_heldIntS.f k bt341.2 1).bind fun t354 => (if t354 < 0 then (some false) else (if t354 = bt341.1 then (some true) else (some false)))) else (some false)))))) else (some false)))))
def laws_FnExactPartDigests.f (k : Nat) (l0 : List (S104)) (l1 : List (S121)) : Option (Bool) := (laws_szPairS.f k l0 1048576).bind fun t307 => (if t307 < 0 then (some true) else ((laws_szIntervalS.f k l1 t307).bind fun t308 => (if t308 < 0 then (some true) else ((laws_toPairS.f k l0).bind fun t309 => ((laws_toIntervalS.f k l1).bind fun t312 => ((spec_PartDigests.f k t309 t312).bind fun t315 => ((laws_toPairS.f k l0).bind fun t318 => ((laws_toIntervalS.f k l1).bind fun t321 => ((impl_PartDigests.f k t318 t321).bind fun t324 => ((laws_eqIntS.f k t324 t315).bind fun t327 => (if t327 = true then ((laws_toPairS.f k l0).bind fun t328 => ((laws_eqPairS.f k t318 t328).bind fun t331 => (if t331 = true then ((laws_toIntervalS.f k l1).bind fun t332 => ((laws_eqIntervalS.f k t321 t332).bind fun t335 => (if t335 = true then ((laws_markPairS.f k t318 1).bind fun bt336 => ((laws_markIntervalS.f k t321 bt336.1).bind fun bt338 => (if bt338.1 < 0 then (laws_FnExactPartDigests.j0 k l0 l1 t315 t324 true) else ((laws_eqIntS.f k t324 t315).bind fun t340 => (laws_FnExactPartDigests.j0 k l0 l1 t315 t324 (!t340)))))) else (some false)))) else (some false)))) else (some false))))))))))))
theorem laws_FnExactPartDigests.mono_l : ∀ k, (∀ y0 y1 y2 y3 y4, LeO (laws_FnExactPartDigests.j0 k y0 y1 y2 y3 y4) (laws_FnExactPartDigests.j0 (k + 1) y0 y1 y2 y3 y4))
  | 0 => fun _ _ _ _ _ r h => by simp [laws_FnExactPartDigests.j0] at h
  | k + 1 => by
    have ih0 := laws_FnExactPartDigests.mono_l k
    · intro y0 y1 y2 y3 y4
      unfold laws_FnExactPartDigests.j0
      repeat' first
      | (with_reducible exact ih0 _ _ _ _ _)
      | (with_reducible exact impl_PartDigests.mono _ _ _)
      | (with_reducible exact laws_eqIntS.mono _ _ _)
      | (with_reducible exact laws_eqIntervalS.mono _ _ _)
      | (with_reducible exact laws_eqPairS.mono _ _ _)
      | (with_reducible exact laws_heldIntS.mono _ _ _)
      | (with_reducible exact laws_markIntS.mono _ _ _)
      | (with_reducible exact laws_markIntervalS.mono _ _ _)
      | (with_reducible exact laws_markPairS.mono _ _ _)
      | (with_reducible exact laws_szIntervalS.mono _ _ _)
      | (with_reducible exact laws_szPairS.mono _ _ _)
      | (with_reducible exact laws_toIntervalS.mono _ _)
      | (with_reducible exact laws_toPairS.mono _ _)
      | (with_reducible exact spec_PartDigests.mono _ _ _)
      | (with_reducible exact LeO.refl _)
      | (with_reducible exact LeO.none _)
      | (with_reducible refine LeO.ite ?_ ?_)
      | (with_reducible refine LeO.bind ?_ (fun _ => ?_))
      | exact ih0 _ _ _ _ _
      | exact impl_PartDigests.mono _ _ _
      | exact laws_eqIntS.mono _ _ _
      | exact laws_eqIntervalS.mono _ _ _
      | exact laws_eqPairS.mono _ _ _
      | exact laws_heldIntS.mono _ _ _
      | exact laws_markIntS.mono _ _ _
      | exact laws_markIntervalS.mono _ _ _
      | exact laws_markPairS.mono _ _ _
      | exact laws_szIntervalS.mono _ _ _
      | exact laws_szPairS.mono _ _ _
      | exact laws_toIntervalS.mono _ _
      | exact laws_toPairS.mono _ _
      | exact spec_PartDigests.mono _ _ _
      | exact LeO.none _
      | refine LeO.ite ?_ ?_
      | refine LeO.bind ?_ (fun _ => ?_)
theorem laws_FnExactPartDigests.mono : ∀ a0 a1 k, LeO (laws_FnExactPartDigests.f k a0 a1) (laws_FnExactPartDigests.f (k + 1) a0 a1) := by
  intro a0 a1 k
  have ih0 := laws_FnExactPartDigests.mono_l k
  unfold laws_FnExactPartDigests.f
  repeat' first
      | (with_reducible exact ih0 _ _ _ _ _)
      | (with_reducible exact impl_PartDigests.mono _ _ _)
      | (with_reducible exact laws_eqIntS.mono _ _ _)
      | (with_reducible exact laws_eqIntervalS.mono _ _ _)
      | (with_reducible exact laws_eqPairS.mono _ _ _)
      | (with_reducible exact laws_heldIntS.mono _ _ _)
      | (with_reducible exact laws_markIntS.mono _ _ _)
      | (with_reducible exact laws_markIntervalS.mono _ _ _)
      | (with_reducible exact laws_markPairS.mono _ _ _)
      | (with_reducible exact laws_szIntervalS.mono _ _ _)
      | (with_reducible exact laws_szPairS.mono _ _ _)
      | (with_reducible exact laws_toIntervalS.mono _ _)
      | (with_reducible exact laws_toPairS.mono _ _)
      | (with_reducible exact spec_PartDigests.mono _ _ _)
      | (with_reducible exact LeO.refl _)
      | (with_reducible exact LeO.none _)
      | (with_reducible refine LeO.ite ?_ ?_)
      | (with_reducible refine LeO.bind ?_ (fun _ => ?_))
      | exact ih0 _ _ _ _ _
      | exact impl_PartDigests.mono _ _ _
      | exact laws_eqIntS.mono _ _ _
      | exact laws_eqIntervalS.mono _ _ _
      | exact laws_eqPairS.mono _ _ _
      | exact laws_heldIntS.mono _ _ _
      | exact laws_markIntS.mono _ _ _
      | exact laws_markIntervalS.mono _ _ _
      | exact laws_markPairS.mono _ _ _
      | exact laws_szIntervalS.mono _ _ _
      | exact laws_szPairS.mono _ _ _
      | exact laws_toIntervalS.mono _ _
      | exact laws_toPairS.mono _ _
      | exact spec_PartDigests.mono _ _ _
      | exact LeO.none _
      | refine LeO.ite ?_ ?_
      | refine LeO.bind ?_ (fun _ => ?_)
theorem laws_FnExactPartDigests.s0 {P0 Q : Prop} (B0 : P0) (h : P0 → Q := by (intro b0_; repeat (first | exact (Kd.R_reads' b0_).2.2 | (with_reducible refine Kd.C_alloc ?_ _) | (with_reducible refine Kd.C_drewN ?_ _) | (with_reducible refine Kd.C_drew ?_)))) : Q := h B0
theorem laws_FnExactPartDigests.s1 {P0 Q : Prop} (B0 : P0) (h : P0 → Q := by (intro b0_; repeat (first | (with_reducible first | exact b0_ | apply below_alloc | apply pw_below_drewN | apply below_drew1) | exact b0_))) : Q := h B0
set_option maxHeartbeats 8000000 in
set_option maxRecDepth 100000 in
theorem laws_FnExactPartDigests.calls (k : Nat) (A0 : Option Addr) (c0 : Nat) (l0 : List (S104)) (A1 : Option Addr) (c1 : Nat) (l1 : List (S121)) (r : Bool) (w : World) (hr0 : Kd.C k104 w A0 l0.length l0) (hc0 : l0.length ≤ c0) (hr1 : Kd.C k121 w A1 l1.length l1) (hc1 : l1.length ≤ c1) (h : laws_FnExactPartDigests.f k l0 l1 = some r) (hrt : Aside0 (r = true)) :
    Calls Try.prog 7 #[.slice A0 l0.length c0, .slice A1 l1.length c1] w fun e w' => e = .returned (.bool r) ∧ Below w.heap.size w w' := by
  have HR0 := Aside0.mk hr0
  have HC0 := Aside0.mk hc0
  clear hr0 hc0
  have HR1 := Aside0.mk hr1
  have HC1 := Aside0.mk hc1
  clear hr1 hc1
  have HB := Aside0.mk (Below.refl w.heap.size w)
  have H : ((laws_szPairS.f k l0 1048576).bind fun t307 => (if t307 < 0 then (some true) else ((laws_szIntervalS.f k l1 t307).bind fun t308 => (if t308 < 0 then (some true) else ((laws_toPairS.f k l0).bind fun t309 => ((laws_toIntervalS.f k l1).bind fun t312 => ((spec_PartDigests.f k t309 t312).bind fun t315 => ((laws_toPairS.f k l0).bind fun t318 => ((laws_toIntervalS.f k l1).bind fun t321 => ((impl_PartDigests.f k t318 t321).bind fun t324 => ((laws_eqIntS.f k t324 t315).bind fun t327 => (if t327 = true then ((laws_toPairS.f k l0).bind fun t328 => ((laws_eqPairS.f k t318 t328).bind fun t331 => (if t331 = true then ((laws_toIntervalS.f k l1).bind fun t332 => ((laws_eqIntervalS.f k t321 t332).bind fun t335 => (if t335 = true then ((laws_markPairS.f k t318 1).bind fun bt336 => ((laws_markIntervalS.f k t321 bt336.1).bind fun bt338 => (if bt338.1 < 0 then (laws_FnExactPartDigests.j0 k l0 l1 t315 t324 true) else ((laws_eqIntS.f k t324 t315).bind fun t340 => (laws_FnExactPartDigests.j0 k l0 l1 t315 t324 (!t340)))))) else (some false)))) else (some false)))) else (some false))))))))))))) = some r := h
  clear h
  replace H := Option.bind_eq_some_iff.mp H
  obtain ⟨t307, A30, H⟩ := H
  replace H : (if t307 < 0 then (some true) else ((laws_szIntervalS.f k l1 t307).bind fun t308 => (if t308 < 0 then (some true) else ((laws_toPairS.f k l0).bind fun t309 => ((laws_toIntervalS.f k l1).bind fun t312 => ((spec_PartDigests.f k t309 t312).bind fun t315 => ((laws_toPairS.f k l0).bind fun t318 => ((laws_toIntervalS.f k l1).bind fun t321 => ((impl_PartDigests.f k t318 t321).bind fun t324 => ((laws_eqIntS.f k t324 t315).bind fun t327 => (if t327 = true then ((laws_toPairS.f k l0).bind fun t328 => ((laws_eqPairS.f k t318 t328).bind fun t331 => (if t331 = true then ((laws_toIntervalS.f k l1).bind fun t332 => ((laws_eqIntervalS.f k t321 t332).bind fun t335 => (if t335 = true then ((laws_markPairS.f k t318 1).bind fun bt336 => ((laws_markIntervalS.f k t321 bt336.1).bind fun bt338 => (if bt338.1 < 0 then (laws_FnExactPartDigests.j0 k l0 l1 t315 t324 true) else ((laws_eqIntS.f k t324 t315).bind fun t340 => (laws_FnExactPartDigests.j0 k l0 l1 t315 t324 (!t340)))))) else (some false)))) else (some false)))) else (some false)))))))))))) = some r := H
  have A3 := Aside0.mk A30
  clear A30
  by_cases c4 : t307 < 0
  · rw [if_pos c4] at H
    have c4b0 : decide (t307 < 0) = true := decide_eq_true c4
    clear c4
    obtain rfl := Option.some.inj H
    go_enter Try.func7, Try.ntmps7
    go_wp2_with (first | ((with_reducible refine gate_callee (f := 25) rfl ?_); refine gsl (some 16) rfl Try.func25 #[.slice A0 l0.length c0, .int .i64 1048576] rfl ?_; (with_reducible refine (laws_szPairS.calls k _ _ l0 1048576 t307 _ ?side1 ?side2 A3.out).mono ?_); (case side1 => exact cc HR0.out); (case side2 => exact HC0.out); rintro e w5 ⟨rfl, hb⟩; refine ⟨_, rfl, ?_⟩; replace HB := an0 HB hb; (try clear hb); (try clear hb2); (try clear hk); (try clear hi)))
    go_ret
    exact ⟨fe, bp HB.out⟩
  · rw [if_neg c4] at H
    have c4b0 : decide (t307 < 0) = false := decide_eq_false c4
    clear c4
    replace H := Option.bind_eq_some_iff.mp H
    obtain ⟨t308, A60, H⟩ := H
    replace H : (if t308 < 0 then (some true) else ((laws_toPairS.f k l0).bind fun t309 => ((laws_toIntervalS.f k l1).bind fun t312 => ((spec_PartDigests.f k t309 t312).bind fun t315 => ((laws_toPairS.f k l0).bind fun t318 => ((laws_toIntervalS.f k l1).bind fun t321 => ((impl_PartDigests.f k t318 t321).bind fun t324 => ((laws_eqIntS.f k t324 t315).bind fun t327 => (if t327 = true then ((laws_toPairS.f k l0).bind fun t328 => ((laws_eqPairS.f k t318 t328).bind fun t331 => (if t331 = true then ((laws_toIntervalS.f k l1).bind fun t332 => ((laws_eqIntervalS.f k t321 t332).bind fun t335 => (if t335 = true then ((laws_markPairS.f k t318 1).bind fun bt336 => ((laws_markIntervalS.f k t321 bt336.1).bind fun bt338 => (if bt338.1 < 0 then (laws_FnExactPartDigests.j0 k l0 l1 t315 t324 true) else ((laws_eqIntS.f k t324 t315).bind fun t340 => (laws_FnExactPartDigests.j0 k l0 l1 t315 t324 (!t340)))))) else (some false)))) else (some false)))) else (some false)))))))))) = some r := H
    have A6 := Aside0.mk A60
    clear A60
    by_cases c7 : t308 < 0
    · rw [if_pos c7] at H
      have c7b0 : decide (t308 < 0) = true := decide_eq_true c7
      clear c7
      obtain rfl := Option.some.inj H
      go_enter Try.func7, Try.ntmps7
      go_wp2_with (first | ((with_reducible refine gate_callee (f := 25) rfl ?_); refine gsl (some 16) rfl Try.func25 #[.slice A0 l0.length c0, .int .i64 1048576] rfl ?_; (with_reducible refine (laws_szPairS.calls k _ _ l0 1048576 t307 _ ?side1 ?side2 A3.out).mono ?_); (case side1 => exact cc HR0.out); (case side2 => exact HC0.out); rintro e w8 ⟨rfl, hb⟩; refine ⟨_, rfl, ?_⟩; replace HB := an0 HB hb; (try clear hb); (try clear hb2); (try clear hk); (try clear hi)) | ((with_reducible refine gate_callee (f := 41) rfl ?_); refine gsl (some 21) rfl Try.func41 #[.slice A1 l1.length c1, .int .i64 t307] rfl ?_; (with_reducible refine (laws_szIntervalS.calls k _ _ l1 t307 t308 _ ?side1 ?side2 A6.out).mono ?_); (case side1 => exact cc (Kd.C_below HR1.out HB.out)); (case side2 => exact HC1.out); rintro e w9 ⟨rfl, hb⟩; refine ⟨_, rfl, ?_⟩; replace HB := an0 HB hb; (try clear hb); (try clear hb2); (try clear hk); (try clear hi)))
      go_ret
      exact ⟨fe, bp HB.out⟩
    · rw [if_neg c7] at H
      have c7b0 : decide (t308 < 0) = false := decide_eq_false c7
      clear c7
      replace H := Option.bind_eq_some_iff.mp H
      obtain ⟨t309, A100, H⟩ := H
      replace H : ((laws_toIntervalS.f k l1).bind fun t312 => ((spec_PartDigests.f k t309 t312).bind fun t315 => ((laws_toPairS.f k l0).bind fun t318 => ((laws_toIntervalS.f k l1).bind fun t321 => ((impl_PartDigests.f k t318 t321).bind fun t324 => ((laws_eqIntS.f k t324 t315).bind fun t327 => (if t327 = true then ((laws_toPairS.f k l0).bind fun t328 => ((laws_eqPairS.f k t318 t328).bind fun t331 => (if t331 = true then ((laws_toIntervalS.f k l1).bind fun t332 => ((laws_eqIntervalS.f k t321 t332).bind fun t335 => (if t335 = true then ((laws_markPairS.f k t318 1).bind fun bt336 => ((laws_markIntervalS.f k t321 bt336.1).bind fun bt338 => (if bt338.1 < 0 then (laws_FnExactPartDigests.j0 k l0 l1 t315 t324 true) else ((laws_eqIntS.f k t324 t315).bind fun t340 => (laws_FnExactPartDigests.j0 k l0 l1 t315 t324 (!t340)))))) else (some false)))) else (some false)))) else (some false)))))))) = some r := H
      have A10 := Aside0.mk A100
      clear A100
      replace H := Option.bind_eq_some_iff.mp H
      obtain ⟨t312, A110, H⟩ := H
      replace H : ((spec_PartDigests.f k t309 t312).bind fun t315 => ((laws_toPairS.f k l0).bind fun t318 => ((laws_toIntervalS.f k l1).bind fun t321 => ((impl_PartDigests.f k t318 t321).bind fun t324 => ((laws_eqIntS.f k t324 t315).bind fun t327 => (if t327 = true then ((laws_toPairS.f k l0).bind fun t328 => ((laws_eqPairS.f k t318 t328).bind fun t331 => (if t331 = true then ((laws_toIntervalS.f k l1).bind fun t332 => ((laws_eqIntervalS.f k t321 t332).bind fun t335 => (if t335 = true then ((laws_markPairS.f k t318 1).bind fun bt336 => ((laws_markIntervalS.f k t321 bt336.1).bind fun bt338 => (if bt338.1 < 0 then (laws_FnExactPartDigests.j0 k l0 l1 t315 t324 true) else ((laws_eqIntS.f k t324 t315).bind fun t340 => (laws_FnExactPartDigests.j0 k l0 l1 t315 t324 (!t340)))))) else (some false)))) else (some false)))) else (some false))))))) = some r := H
      have A11 := Aside0.mk A110
      clear A110
      replace H := Option.bind_eq_some_iff.mp H
      obtain ⟨t315, A120, H⟩ := H
      replace H : ((laws_toPairS.f k l0).bind fun t318 => ((laws_toIntervalS.f k l1).bind fun t321 => ((impl_PartDigests.f k t318 t321).bind fun t324 => ((laws_eqIntS.f k t324 t315).bind fun t327 => (if t327 = true then ((laws_toPairS.f k l0).bind fun t328 => ((laws_eqPairS.f k t318 t328).bind fun t331 => (if t331 = true then ((laws_toIntervalS.f k l1).bind fun t332 => ((laws_eqIntervalS.f k t321 t332).bind fun t335 => (if t335 = true then ((laws_markPairS.f k t318 1).bind fun bt336 => ((laws_markIntervalS.f k t321 bt336.1).bind fun bt338 => (if bt338.1 < 0 then (laws_FnExactPartDigests.j0 k l0 l1 t315 t324 true) else ((laws_eqIntS.f k t324 t315).bind fun t340 => (laws_FnExactPartDigests.j0 k l0 l1 t315 t324 (!t340)))))) else (some false)))) else (some false)))) else (some false)))))) = some r := H
      have A12 := Aside0.mk A120
      clear A120
      replace H := Option.bind_eq_some_iff.mp H
      obtain ⟨t318, A130, H⟩ := H
      replace H : ((laws_toIntervalS.f k l1).bind fun t321 => ((impl_PartDigests.f k t318 t321).bind fun t324 => ((laws_eqIntS.f k t324 t315).bind fun t327 => (if t327 = true then ((laws_toPairS.f k l0).bind fun t328 => ((laws_eqPairS.f k t318 t328).bind fun t331 => (if t331 = true then ((laws_toIntervalS.f k l1).bind fun t332 => ((laws_eqIntervalS.f k t321 t332).bind fun t335 => (if t335 = true then ((laws_markPairS.f k t318 1).bind fun bt336 => ((laws_markIntervalS.f k t321 bt336.1).bind fun bt338 => (if bt338.1 < 0 then (laws_FnExactPartDigests.j0 k l0 l1 t315 t324 true) else ((laws_eqIntS.f k t324 t315).bind fun t340 => (laws_FnExactPartDigests.j0 k l0 l1 t315 t324 (!t340)))))) else (some false)))) else (some false)))) else (some false))))) = some r := H
      have A13 := Aside0.mk A130
      clear A130
      replace H := Option.bind_eq_some_iff.mp H
      obtain ⟨t321, A140, H⟩ := H
      replace H : ((impl_PartDigests.f k t318 t321).bind fun t324 => ((laws_eqIntS.f k t324 t315).bind fun t327 => (if t327 = true then ((laws_toPairS.f k l0).bind fun t328 => ((laws_eqPairS.f k t318 t328).bind fun t331 => (if t331 = true then ((laws_toIntervalS.f k l1).bind fun t332 => ((laws_eqIntervalS.f k t321 t332).bind fun t335 => (if t335 = true then ((laws_markPairS.f k t318 1).bind fun bt336 => ((laws_markIntervalS.f k t321 bt336.1).bind fun bt338 => (if bt338.1 < 0 then (laws_FnExactPartDigests.j0 k l0 l1 t315 t324 true) else ((laws_eqIntS.f k t324 t315).bind fun t340 => (laws_FnExactPartDigests.j0 k l0 l1 t315 t324 (!t340)))))) else (some false)))) else (some false)))) else (some false)))) = some r := H
      have A14 := Aside0.mk A140
      clear A140
      replace H := Option.bind_eq_some_iff.mp H
      obtain ⟨t324, A150, H⟩ := H
      replace H : ((laws_eqIntS.f k t324 t315).bind fun t327 => (if t327 = true then ((laws_toPairS.f k l0).bind fun t328 => ((laws_eqPairS.f k t318 t328).bind fun t331 => (if t331 = true then ((laws_toIntervalS.f k l1).bind fun t332 => ((laws_eqIntervalS.f k t321 t332).bind fun t335 => (if t335 = true then ((laws_markPairS.f k t318 1).bind fun bt336 => ((laws_markIntervalS.f k t321 bt336.1).bind fun bt338 => (if bt338.1 < 0 then (laws_FnExactPartDigests.j0 k l0 l1 t315 t324 true) else ((laws_eqIntS.f k t324 t315).bind fun t340 => (laws_FnExactPartDigests.j0 k l0 l1 t315 t324 (!t340)))))) else (some false)))) else (some false)))) else (some false))) = some r := H
      have A15 := Aside0.mk A150
      clear A150
      replace H := Option.bind_eq_some_iff.mp H
      obtain ⟨t327, A160, H⟩ := H
      replace H : (if t327 = true then ((laws_toPairS.f k l0).bind fun t328 => ((laws_eqPairS.f k t318 t328).bind fun t331 => (if t331 = true then ((laws_toIntervalS.f k l1).bind fun t332 => ((laws_eqIntervalS.f k t321 t332).bind fun t335 => (if t335 = true then ((laws_markPairS.f k t318 1).bind fun bt336 => ((laws_markIntervalS.f k t321 bt336.1).bind fun bt338 => (if bt338.1 < 0 then (laws_FnExactPartDigests.j0 k l0 l1 t315 t324 true) else ((laws_eqIntS.f k t324 t315).bind fun t340 => (laws_FnExactPartDigests.j0 k l0 l1 t315 t324 (!t340)))))) else (some false)))) else (some false)))) else (some false)) = some r := H
      have A16 := Aside0.mk A160
      clear A160
      by_cases c17 : t327 = true
      · subst c17
        have H1 : ((laws_toPairS.f k l0).bind fun t328 => ((laws_eqPairS.f k t318 t328).bind fun t331 => (if t331 = true then ((laws_toIntervalS.f k l1).bind fun t332 => ((laws_eqIntervalS.f k t321 t332).bind fun t335 => (if t335 = true then ((laws_markPairS.f k t318 1).bind fun bt336 => ((laws_markIntervalS.f k t321 bt336.1).bind fun bt338 => (if bt338.1 < 0 then (laws_FnExactPartDigests.j0 k l0 l1 t315 t324 true) else ((laws_eqIntS.f k t324 t315).bind fun t340 => (laws_FnExactPartDigests.j0 k l0 l1 t315 t324 (!t340)))))) else (some false)))) else (some false)))) = some r := by rw [if_pos rfl] at H; exact H
        clear H
        have H := H1
        clear H1
        replace H := Option.bind_eq_some_iff.mp H
        obtain ⟨t328, A180, H⟩ := H
        replace H : ((laws_eqPairS.f k t318 t328).bind fun t331 => (if t331 = true then ((laws_toIntervalS.f k l1).bind fun t332 => ((laws_eqIntervalS.f k t321 t332).bind fun t335 => (if t335 = true then ((laws_markPairS.f k t318 1).bind fun bt336 => ((laws_markIntervalS.f k t321 bt336.1).bind fun bt338 => (if bt338.1 < 0 then (laws_FnExactPartDigests.j0 k l0 l1 t315 t324 true) else ((laws_eqIntS.f k t324 t315).bind fun t340 => (laws_FnExactPartDigests.j0 k l0 l1 t315 t324 (!t340)))))) else (some false)))) else (some false))) = some r := H
        have A18 := Aside0.mk A180
        clear A180
        replace H := Option.bind_eq_some_iff.mp H
        obtain ⟨t331, A190, H⟩ := H
        replace H : (if t331 = true then ((laws_toIntervalS.f k l1).bind fun t332 => ((laws_eqIntervalS.f k t321 t332).bind fun t335 => (if t335 = true then ((laws_markPairS.f k t318 1).bind fun bt336 => ((laws_markIntervalS.f k t321 bt336.1).bind fun bt338 => (if bt338.1 < 0 then (laws_FnExactPartDigests.j0 k l0 l1 t315 t324 true) else ((laws_eqIntS.f k t324 t315).bind fun t340 => (laws_FnExactPartDigests.j0 k l0 l1 t315 t324 (!t340)))))) else (some false)))) else (some false)) = some r := H
        have A19 := Aside0.mk A190
        clear A190
        by_cases c20 : t331 = true
        · subst c20
          have H1 : ((laws_toIntervalS.f k l1).bind fun t332 => ((laws_eqIntervalS.f k t321 t332).bind fun t335 => (if t335 = true then ((laws_markPairS.f k t318 1).bind fun bt336 => ((laws_markIntervalS.f k t321 bt336.1).bind fun bt338 => (if bt338.1 < 0 then (laws_FnExactPartDigests.j0 k l0 l1 t315 t324 true) else ((laws_eqIntS.f k t324 t315).bind fun t340 => (laws_FnExactPartDigests.j0 k l0 l1 t315 t324 (!t340)))))) else (some false)))) = some r := by rw [if_pos rfl] at H; exact H
          clear H
          have H := H1
          clear H1
          replace H := Option.bind_eq_some_iff.mp H
          obtain ⟨t332, A210, H⟩ := H
          replace H : ((laws_eqIntervalS.f k t321 t332).bind fun t335 => (if t335 = true then ((laws_markPairS.f k t318 1).bind fun bt336 => ((laws_markIntervalS.f k t321 bt336.1).bind fun bt338 => (if bt338.1 < 0 then (laws_FnExactPartDigests.j0 k l0 l1 t315 t324 true) else ((laws_eqIntS.f k t324 t315).bind fun t340 => (laws_FnExactPartDigests.j0 k l0 l1 t315 t324 (!t340)))))) else (some false))) = some r := H
          have A21 := Aside0.mk A210
          clear A210
          replace H := Option.bind_eq_some_iff.mp H
          obtain ⟨t335, A220, H⟩ := H
          replace H : (if t335 = true then ((laws_markPairS.f k t318 1).bind fun bt336 => ((laws_markIntervalS.f k t321 bt336.1).bind fun bt338 => (if bt338.1 < 0 then (laws_FnExactPartDigests.j0 k l0 l1 t315 t324 true) else ((laws_eqIntS.f k t324 t315).bind fun t340 => (laws_FnExactPartDigests.j0 k l0 l1 t315 t324 (!t340)))))) else (some false)) = some r := H
          have A22 := Aside0.mk A220
          clear A220
          by_cases c23 : t335 = true
          · subst c23
            have H1 : ((laws_markPairS.f k t318 1).bind fun bt336 => ((laws_markIntervalS.f k t321 bt336.1).bind fun bt338 => (if bt338.1 < 0 then (laws_FnExactPartDigests.j0 k l0 l1 t315 t324 true) else ((laws_eqIntS.f k t324 t315).bind fun t340 => (laws_FnExactPartDigests.j0 k l0 l1 t315 t324 (!t340)))))) = some r := by rw [if_pos rfl] at H; exact H
            clear H
            have H := H1
            clear H1
            replace H := Option.bind_eq_some_iff.mp H
            obtain ⟨⟨t336, t337⟩, A240, H⟩ := H
            replace H : ((laws_markIntervalS.f k t321 t336).bind fun bt338 => (if bt338.1 < 0 then (laws_FnExactPartDigests.j0 k l0 l1 t315 t324 true) else ((laws_eqIntS.f k t324 t315).bind fun t340 => (laws_FnExactPartDigests.j0 k l0 l1 t315 t324 (!t340))))) = some r := H
            have A24 := Aside0.mk A240
            clear A240
            replace H := Option.bind_eq_some_iff.mp H
            obtain ⟨⟨t338, t339⟩, A250, H⟩ := H
            replace H : (if t338 < 0 then (laws_FnExactPartDigests.j0 k l0 l1 t315 t324 true) else ((laws_eqIntS.f k t324 t315).bind fun t340 => (laws_FnExactPartDigests.j0 k l0 l1 t315 t324 (!t340)))) = some r := H
            have A25 := Aside0.mk A250
            clear A250
            have HC26 := Aside0.mk H
            clear H
            go_enter Try.func7, Try.ntmps7
            go_upto_region 21 with (first | ((with_reducible refine gate_callee (f := 25) rfl ?_); refine gsl (some 16) rfl Try.func25 #[.slice A0 l0.length c0, .int .i64 1048576] rfl ?_; (with_reducible refine (laws_szPairS.calls k _ _ l0 1048576 t307 _ ?side1 ?side2 A3.out).mono ?_); (case side1 => exact cc HR0.out); (case side2 => exact HC0.out); rintro e w27 ⟨rfl, hb⟩; refine ⟨_, rfl, ?_⟩; replace HB := an0 HB hb; (try clear hb); (try clear hb2); (try clear hk); (try clear hi)) | ((with_reducible refine gate_callee (f := 41) rfl ?_); refine gsl (some 21) rfl Try.func41 #[.slice A1 l1.length c1, .int .i64 t307] rfl ?_; (with_reducible refine (laws_szIntervalS.calls k _ _ l1 t307 t308 _ ?side1 ?side2 A6.out).mono ?_); (case side1 => exact cc (Kd.C_below HR1.out HB.out)); (case side2 => exact HC1.out); rintro e w28 ⟨rfl, hb⟩; refine ⟨_, rfl, ?_⟩; replace HB := an0 HB hb; (try clear hb); (try clear hb2); (try clear hk); (try clear hi)) | ((with_reducible refine gate_callee (f := 28) rfl ?_); refine gsl (some 25) rfl Try.func28 #[.slice A0 l0.length c0] rfl ?_; (with_reducible refine (laws_toPairS.calls k _ _ l0 t309 _ ?side1 ?side2 A10.out).mono ?_); (case side1 => exact cc (Kd.C_below HR0.out HB.out)); (case side2 => exact HC0.out); rintro e w29 ⟨v310, rfl, ho0, hb⟩; refine ⟨_, rfl, ?_⟩; have n0_ := Aside0.mk (Kd.R_lower ho0 (below_size (bp HB.out))); have n1_ := an0 HB hb; clear HB; have HO311 := n0_; have HB := n1_; clear n0_ n1_; (try clear hb); (try clear hb2); (try clear hk); (try clear hi); (try clear ho0)) | ((with_reducible refine gate_callee (f := 42) rfl ?_); refine gsl (some 27) rfl Try.func42 #[.slice A1 l1.length c1] rfl ?_; (with_reducible refine (laws_toIntervalS.calls k _ _ l1 t312 _ ?side1 ?side2 A11.out).mono ?_); (case side1 => exact cc (Kd.C_below HR1.out HB.out)); (case side2 => exact HC1.out); rintro e w30 ⟨v313, rfl, ho0, hb⟩; refine ⟨_, rfl, ?_⟩; have n0_ := Aside0.mk (Kd.R_below (kr HO311.out) hb); have n1_ := Aside0.mk (Kd.R_lower ho0 (below_size (bp HB.out))); have n2_ := an0 HB hb; clear HO311; clear HB; have HO311 := n0_; have HO314 := n1_; have HB := n2_; clear n0_ n1_ n2_; (try clear hb); (try clear hb2); (try clear hk); (try clear hi); (try clear ho0); obtain ⟨Ao31, co31, eo31⟩ := Kd.R_slice HO311.out; subst eo31; obtain ⟨Ao32, co32, eo32⟩ := Kd.R_slice HO314.out; subst eo32) | ((with_reducible refine gate_callee (f := 39) rfl ?_); refine gsl (some 28) rfl Try.func39 #[.slice Ao31 t309.length co31, .slice Ao32 t312.length co32] rfl ?_; (with_reducible refine (spec_PartDigests.calls k _ _ t309 _ _ t312 t315 _ ?side1 ?side2 ?side3 ?side4 A12.out).mono ?_); (case side1 => exact laws_FnExactPartDigests.s0 HO311.out); (case side2 => exact (Kd.R_reads' HO311.out).2.1); (case side3 => exact laws_FnExactPartDigests.s0 HO314.out); (case side4 => exact (Kd.R_reads' HO314.out).2.1); rintro e w33 ⟨v316, rfl, ho0, hb⟩; refine ⟨_, rfl, ?_⟩; have n0_ := Aside0.mk (Kd.R_below (kr HO311.out) hb); have n1_ := Aside0.mk (Kd.R_below (kr HO314.out) hb); have n2_ := Aside0.mk (Kd.R_lower ho0 (below_size (bp HB.out))); have n3_ := an0 HB hb; clear HO311; clear HO314; clear HB; have HO311 := n0_; have HO314 := n1_; have HO317 := n2_; have HB := n3_; clear n0_ n1_ n2_ n3_; (try clear hb); (try clear hb2); (try clear hk); (try clear hi); (try clear ho0)) | ((with_reducible refine gate_callee (f := 28) rfl ?_); refine gsl (some 30) rfl Try.func28 #[.slice A0 l0.length c0] rfl ?_; (with_reducible refine (laws_toPairS.calls k _ _ l0 t318 _ ?side1 ?side2 A13.out).mono ?_); (case side1 => exact cc (Kd.C_below HR0.out HB.out)); (case side2 => exact HC0.out); rintro e w34 ⟨v319, rfl, ho0, hb⟩; refine ⟨_, rfl, ?_⟩; have n0_ := Aside0.mk (Kd.R_elder' (kr HO311.out) (Kd.R_base ho0) hb); have n1_ := Aside0.mk (Kd.R_below (kr HO314.out) hb); have n2_ := Aside0.mk (Kd.R_below (kr HO317.out) hb); have n3_ := Aside0.mk (Kd.R_lower (Kd.R_new' ho0 (Kd.R_lt (kr HO311.out))) (below_size (bp HB.out))); have n4_ := an0 HB hb; clear HO311; clear HO314; clear HO317; clear HB; have HO311 := n0_; have HO314 := n1_; have HO317 := n2_; have HO320 := n3_; have HB := n4_; clear n0_ n1_ n2_ n3_ n4_; (try clear hb); (try clear hb2); (try clear hk); (try clear hi); (try clear ho0)) | ((with_reducible refine gate_callee (f := 42) rfl ?_); refine gsl (some 32) rfl Try.func42 #[.slice A1 l1.length c1] rfl ?_; (with_reducible refine (laws_toIntervalS.calls k _ _ l1 t321 _ ?side1 ?side2 A14.out).mono ?_); (case side1 => exact cc (Kd.C_below HR1.out HB.out)); (case side2 => exact HC1.out); rintro e w35 ⟨v322, rfl, ho0, hb⟩; refine ⟨_, rfl, ?_⟩; have n0_ := Aside0.mk (Kd.R_below (kr HO311.out) hb); have n1_ := Aside0.mk (Kd.R_elder' (kr HO314.out) (Kd.R_base ho0) hb); have n2_ := Aside0.mk (Kd.R_below (kr HO317.out) hb); have n3_ := Aside0.mk (Kd.R_below (kr HO320.out) hb); have n4_ := Aside0.mk (Kd.R_lower (Kd.R_new' ho0 (Kd.R_lt (kr HO314.out))) (below_size (bp HB.out))); have n5_ := an0 HB hb; clear HO311; clear HO314; clear HO317; clear HO320; clear HB; have HO311 := n0_; have HO314 := n1_; have HO317 := n2_; have HO320 := n3_; have HO323 := n4_; have HB := n5_; clear n0_ n1_ n2_ n3_ n4_ n5_; (try clear hb); (try clear hb2); (try clear hk); (try clear hi); (try clear ho0); obtain ⟨Ao36, co36, eo36⟩ := Kd.R_slice HO320.out; subst eo36; obtain ⟨Ao37, co37, eo37⟩ := Kd.R_slice HO323.out; subst eo37) | ((with_reducible refine gate_callee (f := 37) rfl ?_); refine gsl (some 35) rfl Try.func37 #[.slice Ao36 t318.length co36, .slice Ao37 t321.length co37] rfl ?_; (with_reducible refine (impl_PartDigests.calls k _ _ t318 _ _ t321 t324 _ ?side1 ?side2 ?side3 ?side4 A15.out).mono ?_); (case side1 => exact laws_FnExactPartDigests.s0 HO320.out); (case side2 => exact (Kd.R_reads' HO320.out).2.1); (case side3 => exact laws_FnExactPartDigests.s0 HO323.out); (case side4 => exact (Kd.R_reads' HO323.out).2.1); rintro e w38 ⟨v325, rfl, ho0, hb⟩; refine ⟨_, rfl, ?_⟩; have n0_ := Aside0.mk (Kd.R_below (kr HO311.out) hb); have n1_ := Aside0.mk (Kd.R_below (kr HO314.out) hb); have n2_ := Aside0.mk (Kd.R_elder' (kr HO317.out) (Kd.R_base ho0) hb); have n3_ := Aside0.mk (Kd.R_below (kr HO320.out) hb); have n4_ := Aside0.mk (Kd.R_below (kr HO323.out) hb); have n5_ := Aside0.mk (Kd.R_lower (Kd.R_new' ho0 (Kd.R_lt (kr HO317.out))) (below_size (bp HB.out))); have n6_ := an0 HB hb; clear HO311; clear HO314; clear HO317; clear HO320; clear HO323; clear HB; have HO311 := n0_; have HO314 := n1_; have HO317 := n2_; have HO320 := n3_; have HO323 := n4_; have HO326 := n5_; have HB := n6_; clear n0_ n1_ n2_ n3_ n4_ n5_ n6_; (try clear hb); (try clear hb2); (try clear hk); (try clear hi); (try clear ho0); obtain ⟨Ao39, co39, eo39⟩ := Kd.R_slice HO326.out; subst eo39; obtain ⟨Ao40, co40, eo40⟩ := Kd.R_slice HO317.out; subst eo40) | ((with_reducible refine gate_callee (f := 43) rfl ?_); refine gsl (some 38) rfl Try.func43 #[.slice Ao39 t324.length co39, .slice Ao40 t315.length co40] rfl ?_; (with_reducible refine (laws_eqIntS.calls k _ _ t324 _ _ t315 true _ ?side1 ?side2 ?side3 ?side4 A16.out).mono ?_); (case side1 => exact laws_FnExactPartDigests.s0 HO326.out); (case side2 => exact (Kd.R_reads' HO326.out).2.1); (case side3 => exact laws_FnExactPartDigests.s0 HO317.out); (case side4 => exact (Kd.R_reads' HO317.out).2.1); rintro e w' ⟨rfl, ⟨nd, rfl⟩⟩; refine ⟨_, rfl, ?_⟩) | ((with_reducible refine gate_callee (f := 28) rfl ?_); refine gsl (some 42) rfl Try.func28 #[.slice A0 l0.length c0] rfl ?_; (with_reducible refine (laws_toPairS.calls k _ _ l0 t328 _ ?side1 ?side2 A18.out).mono ?_); (case side1 => repeat (first | exact (Kd.C_below HR0.out (bp HB.out)) | (with_reducible refine Kd.C_alloc ?_ _) | (with_reducible refine Kd.C_drewN ?_ _) | (with_reducible refine Kd.C_drew ?_))); (case side2 => exact HC0.out); rintro e w41 ⟨v329, rfl, ho0, hb⟩; refine ⟨_, rfl, ?_⟩; have n0_ := Aside0.mk (Kd.R_elder' (kr HO311.out) (Kd.R_base ho0) hb); have n1_ := Aside0.mk (Kd.R_below (kr HO314.out) hb); have n2_ := Aside0.mk (Kd.R_below (kr HO317.out) hb); have n3_ := Aside0.mk (Kd.R_elder' (kr HO320.out) (Kd.R_base ho0) hb); have n4_ := Aside0.mk (Kd.R_below (kr HO323.out) hb); have n5_ := Aside0.mk (Kd.R_below (kr HO326.out) hb); have n6_ := Aside0.mk (Kd.R_lower (Kd.R_new' (Kd.R_new' ho0 (Kd.R_lt (kr HO311.out))) (Kd.R_lt (kr HO320.out))) (below_size (bp HB.out))); have n7_ := an0 HB hb; clear HO311; clear HO314; clear HO317; clear HO320; clear HO323; clear HO326; clear HB; have HO311 := n0_; have HO314 := n1_; have HO317 := n2_; have HO320 := n3_; have HO323 := n4_; have HO326 := n5_; have HO330 := n6_; have HB := n7_; clear n0_ n1_ n2_ n3_ n4_ n5_ n6_ n7_; (try clear hb); (try clear hb2); (try clear hk); (try clear hi); (try clear ho0); obtain ⟨Ao42, co42, eo42⟩ := Kd.R_slice HO330.out; subst eo42) | ((with_reducible refine gate_callee (f := 31) rfl ?_); refine gsl (some 43) rfl Try.func31 #[.slice Ao36 t318.length co36, .slice Ao42 t328.length co42] rfl ?_; (with_reducible refine (laws_eqPairS.calls k _ _ t318 _ _ t328 true _ ?side1 ?side2 ?side3 ?side4 A19.out).mono ?_); (case side1 => exact laws_FnExactPartDigests.s0 HO320.out); (case side2 => exact (Kd.R_reads' HO320.out).2.1); (case side3 => exact laws_FnExactPartDigests.s0 HO330.out); (case side4 => exact (Kd.R_reads' HO330.out).2.1); rintro e w43 ⟨rfl, hb⟩; refine ⟨_, rfl, ?_⟩; have n0_ := Aside0.mk (Kd.R_below (kr HO311.out) hb); have n1_ := Aside0.mk (Kd.R_below (kr HO314.out) hb); have n2_ := Aside0.mk (Kd.R_below (kr HO317.out) hb); have n3_ := Aside0.mk (Kd.R_below (kr HO320.out) hb); have n4_ := Aside0.mk (Kd.R_below (kr HO323.out) hb); have n5_ := Aside0.mk (Kd.R_below (kr HO326.out) hb); have n6_ := Aside0.mk (Kd.R_below (kr HO330.out) hb); have n7_ := an0 HB hb; clear HO311; clear HO314; clear HO317; clear HO320; clear HO323; clear HO326; clear HO330; clear HB; have HO311 := n0_; have HO314 := n1_; have HO317 := n2_; have HO320 := n3_; have HO323 := n4_; have HO326 := n5_; have HO330 := n6_; have HB := n7_; clear n0_ n1_ n2_ n3_ n4_ n5_ n6_ n7_; (try clear hb); (try clear hb2); (try clear hk); (try clear hi)) | ((with_reducible refine gate_callee (f := 42) rfl ?_); refine gsl (some 47) rfl Try.func42 #[.slice A1 l1.length c1] rfl ?_; (with_reducible refine (laws_toIntervalS.calls k _ _ l1 t332 _ ?side1 ?side2 A21.out).mono ?_); (case side1 => exact cc (Kd.C_below HR1.out HB.out)); (case side2 => exact HC1.out); rintro e w44 ⟨v333, rfl, ho0, hb⟩; refine ⟨_, rfl, ?_⟩; have n0_ := Aside0.mk (Kd.R_below (kr HO311.out) hb); have n1_ := Aside0.mk (Kd.R_elder' (kr HO314.out) (Kd.R_base ho0) hb); have n2_ := Aside0.mk (Kd.R_below (kr HO317.out) hb); have n3_ := Aside0.mk (Kd.R_below (kr HO320.out) hb); have n4_ := Aside0.mk (Kd.R_elder' (kr HO323.out) (Kd.R_base ho0) hb); have n5_ := Aside0.mk (Kd.R_below (kr HO326.out) hb); have n6_ := Aside0.mk (Kd.R_below (kr HO330.out) hb); have n7_ := Aside0.mk (Kd.R_lower (Kd.R_new' (Kd.R_new' ho0 (Kd.R_lt (kr HO314.out))) (Kd.R_lt (kr HO323.out))) (below_size (bp HB.out))); have n8_ := an0 HB hb; clear HO311; clear HO314; clear HO317; clear HO320; clear HO323; clear HO326; clear HO330; clear HB; have HO311 := n0_; have HO314 := n1_; have HO317 := n2_; have HO320 := n3_; have HO323 := n4_; have HO326 := n5_; have HO330 := n6_; have HO334 := n7_; have HB := n8_; clear n0_ n1_ n2_ n3_ n4_ n5_ n6_ n7_ n8_; (try clear hb); (try clear hb2); (try clear hk); (try clear hi); (try clear ho0); obtain ⟨Ao45, co45, eo45⟩ := Kd.R_slice HO334.out; subst eo45) | ((with_reducible refine gate_callee (f := 44) rfl ?_); refine gsl (some 48) rfl Try.func44 #[.slice Ao37 t321.length co37, .slice Ao45 t332.length co45] rfl ?_; (with_reducible refine (laws_eqIntervalS.calls k _ _ t321 _ _ t332 true _ ?side1 ?side2 ?side3 ?side4 A22.out).mono ?_); (case side1 => exact laws_FnExactPartDigests.s0 HO323.out); (case side2 => exact (Kd.R_reads' HO323.out).2.1); (case side3 => exact laws_FnExactPartDigests.s0 HO334.out); (case side4 => exact (Kd.R_reads' HO334.out).2.1); rintro e w46 ⟨rfl, hb⟩; refine ⟨_, rfl, ?_⟩; have n0_ := Aside0.mk (Kd.R_below (kr HO311.out) hb); have n1_ := Aside0.mk (Kd.R_below (kr HO314.out) hb); have n2_ := Aside0.mk (Kd.R_below (kr HO317.out) hb); have n3_ := Aside0.mk (Kd.R_below (kr HO320.out) hb); have n4_ := Aside0.mk (Kd.R_below (kr HO323.out) hb); have n5_ := Aside0.mk (Kd.R_below (kr HO326.out) hb); have n6_ := Aside0.mk (Kd.R_below (kr HO330.out) hb); have n7_ := Aside0.mk (Kd.R_below (kr HO334.out) hb); have n8_ := an0 HB hb; clear HO311; clear HO314; clear HO317; clear HO320; clear HO323; clear HO326; clear HO330; clear HO334; clear HB; have HO311 := n0_; have HO314 := n1_; have HO317 := n2_; have HO320 := n3_; have HO323 := n4_; have HO326 := n5_; have HO330 := n6_; have HO334 := n7_; have HB := n8_; clear n0_ n1_ n2_ n3_ n4_ n5_ n6_ n7_ n8_; (try clear hb); (try clear hb2); (try clear hk); (try clear hi)) | ((with_reducible refine gate_callee (f := 33) rfl ?_); refine gsl (some 52) rfl Try.func33 #[.slice Ao36 t318.length co36, .int .i64 1] rfl ?_; (with_reducible refine (laws_markPairS.calls k (fun k_ => some k_ = (.slice Ao36 t318.length co36 : Value).ownBlock) (.slice Ao36 t318.length co36) t318 1 t336 t337 w _ ?side1 ?side2 A24.out).mono ?_); (case side1 => exact laws_FnExactPartDigests.s1 HB.out); (case side2 => exact Kd.R_tight rfl HO320.out); rintro e w47 ⟨rfl, hy0, hb, hkp⟩; refine ⟨_, rfl, ?_⟩; have n0_ := Aside0.mk (Kd.R_mono (ok' := fun k_ => some k_ ≠ (.slice Ao36 t318.length co36 : Value).ownBlock ∧ some k_ ≠ (.slice Ao42 t328.length co42 : Value).ownBlock) (Kd.R_keptB (HO311.out) hkp (fun k_ hk_ hs_ => (hk_.1.2) hs_)) (fun k_ hk_ => ⟨hk_.1.1.2, hk_.1.2⟩)); have n1_ := Aside0.mk (Kd.R_mono (ok' := fun k_ => some k_ ≠ (.slice Ao37 t321.length co37 : Value).ownBlock ∧ some k_ ≠ (.slice Ao45 t332.length co45 : Value).ownBlock) (Kd.R_keptB ((Kd.R_apart' HO314.out (Kd.R_typed HO320.out) (by decide))) hkp (fun k_ hk_ hs_ => (hk_.2) hs_)) (fun k_ hk_ => ⟨hk_.1.1.1.2, hk_.1.1.2⟩)); have n2_ := Aside0.mk (Kd.R_mono (ok' := fun k_ => some k_ ≠ (.slice Ao39 t324.length co39 : Value).ownBlock) (Kd.R_keptB ((Kd.R_apart' HO317.out (Kd.R_typed HO320.out) (by decide))) hkp (fun k_ hk_ hs_ => (hk_.2) hs_)) (fun k_ hk_ => hk_.1.1.2)); have n3_ := Aside0.mk (Kd.R_reok rfl hy0 (fun k_ e_ => HO320.out.1 k_ e_)); have n4_ := Aside0.mk (Kd.R_mono (ok' := fun k_ => some k_ ≠ (.slice Ao32 t312.length co32 : Value).ownBlock ∧ some k_ ≠ (.slice Ao45 t332.length co45 : Value).ownBlock) (Kd.R_keptB ((Kd.R_apart' HO323.out (Kd.R_typed HO320.out) (by decide))) hkp (fun k_ hk_ hs_ => (hk_.2) hs_)) (fun k_ hk_ => ⟨hk_.1.1.1.2, hk_.1.1.2⟩)); have n5_ := Aside0.mk (Kd.R_mono (ok' := fun k_ => some k_ ≠ (.slice Ao40 t315.length co40 : Value).ownBlock) (Kd.R_keptB ((Kd.R_apart' HO326.out (Kd.R_typed HO320.out) (by decide))) hkp (fun k_ hk_ hs_ => (hk_.2) hs_)) (fun k_ hk_ => hk_.1.1.2)); have n6_ := Aside0.mk (Kd.R_mono (ok' := fun k_ => some k_ ≠ (.slice Ao31 t309.length co31 : Value).ownBlock ∧ some k_ ≠ (.slice Ao36 t318.length co36 : Value).ownBlock) (Kd.R_keptB (HO330.out) hkp (fun k_ hk_ hs_ => (hk_.2) hs_)) (fun k_ hk_ => ⟨hk_.1.1.2, hk_.1.2⟩)); have n7_ := Aside0.mk (Kd.R_mono (ok' := fun k_ => some k_ ≠ (.slice Ao32 t312.length co32 : Value).ownBlock ∧ some k_ ≠ (.slice Ao37 t321.length co37 : Value).ownBlock) (Kd.R_keptB ((Kd.R_apart' HO334.out (Kd.R_typed HO320.out) (by decide))) hkp (fun k_ hk_ hs_ => (hk_.2) hs_)) (fun k_ hk_ => ⟨hk_.1.1.1.2, hk_.1.1.2⟩)); have n8_ := Aside0.mk (hb); clear HO311; clear HO314; clear HO317; clear HO320; clear HO323; clear HO326; clear HO330; clear HO334; clear HB; have HO311 := n0_; have HO314 := n1_; have HO317 := n2_; have HO320 := n3_; have HO323 := n4_; have HO326 := n5_; have HO330 := n6_; have HO334 := n7_; have HB := n8_; clear n0_ n1_ n2_ n3_ n4_ n5_ n6_ n7_ n8_; (try clear hb); (try clear hkp); (try clear hy0)) | ((with_reducible refine gate_callee (f := 45) rfl ?_); refine gsl (some 55) rfl Try.func45 #[.slice Ao37 t321.length co37, .int .i64 t336] rfl ?_; (with_reducible refine (laws_markIntervalS.calls k (fun k_ => some k_ = (.slice Ao37 t321.length co37 : Value).ownBlock) (.slice Ao37 t321.length co37) t321 t336 t338 t339 w _ ?side1 ?side2 A25.out).mono ?_); (case side1 => exact laws_FnExactPartDigests.s1 HB.out); (case side2 => exact Kd.R_tight rfl HO323.out); rintro e w48 ⟨rfl, hy0, hb, hkp⟩; refine ⟨_, rfl, ?_⟩; have n0_ := Aside0.mk (Kd.R_mono (ok' := fun k_ => some k_ ≠ (.slice Ao36 t318.length co36 : Value).ownBlock ∧ some k_ ≠ (.slice Ao42 t328.length co42 : Value).ownBlock) (Kd.R_keptB ((Kd.R_apart' HO311.out (Kd.R_typed HO323.out) (by decide))) hkp (fun k_ hk_ hs_ => (hk_.2) hs_)) (fun k_ hk_ => ⟨hk_.1.1.1, hk_.1.1.2⟩)); have n1_ := Aside0.mk (Kd.R_mono (ok' := fun k_ => some k_ ≠ (.slice Ao37 t321.length co37 : Value).ownBlock ∧ some k_ ≠ (.slice Ao45 t332.length co45 : Value).ownBlock) (Kd.R_keptB (HO314.out) hkp (fun k_ hk_ hs_ => (hk_.1) hs_)) (fun k_ hk_ => ⟨hk_.1.1, hk_.1.2⟩)); have n2_ := Aside0.mk (Kd.R_mono (ok' := fun k_ => some k_ ≠ (.slice Ao39 t324.length co39 : Value).ownBlock) (Kd.R_keptB ((Kd.R_apart' HO317.out (Kd.R_typed HO323.out) (by decide))) hkp (fun k_ hk_ hs_ => (hk_.2) hs_)) (fun k_ hk_ => hk_.1.1)); have n3_ := Aside0.mk (Kd.R_mono (ok' := fun k_ => some k_ ≠ (.slice Ao31 t309.length co31 : Value).ownBlock ∧ some k_ ≠ (.slice Ao42 t328.length co42 : Value).ownBlock) (Kd.R_keptB ((Kd.R_apart' HO320.out (Kd.R_typed HO323.out) (by decide))) hkp (fun k_ hk_ hs_ => (hk_.2) hs_)) (fun k_ hk_ => ⟨hk_.1.1.1.2, hk_.1.1.2⟩)); have n4_ := Aside0.mk (Kd.R_reok rfl hy0 (fun k_ e_ => HO323.out.1 k_ e_)); have n5_ := Aside0.mk (Kd.R_mono (ok' := fun k_ => some k_ ≠ (.slice Ao40 t315.length co40 : Value).ownBlock) (Kd.R_keptB ((Kd.R_apart' HO326.out (Kd.R_typed HO323.out) (by decide))) hkp (fun k_ hk_ hs_ => (hk_.2) hs_)) (fun k_ hk_ => hk_.1.1)); have n6_ := Aside0.mk (Kd.R_mono (ok' := fun k_ => some k_ ≠ (.slice Ao31 t309.length co31 : Value).ownBlock ∧ some k_ ≠ (.slice Ao36 t318.length co36 : Value).ownBlock) (Kd.R_keptB ((Kd.R_apart' HO330.out (Kd.R_typed HO323.out) (by decide))) hkp (fun k_ hk_ hs_ => (hk_.2) hs_)) (fun k_ hk_ => ⟨hk_.1.1.1, hk_.1.1.2⟩)); have n7_ := Aside0.mk (Kd.R_mono (ok' := fun k_ => some k_ ≠ (.slice Ao32 t312.length co32 : Value).ownBlock ∧ some k_ ≠ (.slice Ao37 t321.length co37 : Value).ownBlock) (Kd.R_keptB (HO334.out) hkp (fun k_ hk_ hs_ => (hk_.2) hs_)) (fun k_ hk_ => ⟨hk_.1.1, hk_.1.2⟩)); have n8_ := Aside0.mk (hb); clear HO311; clear HO314; clear HO317; clear HO320; clear HO323; clear HO326; clear HO330; clear HO334; clear HB; have HO311 := n0_; have HO314 := n1_; have HO317 := n2_; have HO320 := n3_; have HO323 := n4_; have HO326 := n5_; have HO330 := n6_; have HO334 := n7_; have HB := n8_; clear n0_ n1_ n2_ n3_ n4_ n5_ n6_ n7_ n8_; (try clear hb); (try clear hkp); (try clear hy0)))
            (try simp only [Act.put, List.setIfInBounds_toArray, List.set_cons_zero, List.set_cons_succ])
            go_cut [63] (fun v63 wc => ∃ (kq : Nat) (x63_25 : Bool), v63 = .bool x63_25 ∧ Aside0 (laws_FnExactPartDigests.j0 kq l0 l1 t315 t324 x63_25 = some r) ∧ Aside0 (kq ≤ k) ∧ Aside0 (Kd.R (Kd.int .i64) 3 wc w.heap.size (fun k_ => some k_ ≠ ((.slice Ao39 t324.length co39) : Value).ownBlock) (.slice Ao40 t315.length co40) t315) ∧ Aside0 (Kd.R (Kd.int .i64) 3 wc w.heap.size (fun k_ => some k_ ≠ ((.slice Ao40 t315.length co40) : Value).ownBlock) (.slice Ao39 t324.length co39) t324) ∧ Aside0 (Below w.heap.size w wc))
            case first =>
              have H := HC26.out
              clear HC26
              by_cases c49 : t338 < 0
              · rw [if_pos c49] at H
                have c49b0 : decide (t338 < 0) = true := decide_eq_true c49
                clear c49
                (first | rw [c49b0] | (simp only [i64_w, i32_w]; rw [c49b0]) | skip)
                have H' := Aside0.mk H
                clear H
                go_wp2
                go_meet
                case rel => exact ⟨_, (true), (by first | rfl | (simp; done) | (simp [*]; done) | (simp [bne_nil_, beq_nil_]; done)), H', ⟨by first | omega | exact Nat.le_refl _⟩, ⟨by (with_reducible repeat (first | apply Kd.R_alloc | apply Kd.R_drewN | apply Kd.R_drew)); exact HO317.out⟩, ⟨by (with_reducible repeat (first | apply Kd.R_alloc | apply Kd.R_drewN | apply Kd.R_drew)); exact HO326.out⟩, ⟨bp HB.out⟩⟩
              · rw [if_neg c49] at H
                have c49b0 : decide (t338 < 0) = false := decide_eq_false c49
                clear c49
                (first | rw [c49b0] | (simp only [i64_w, i32_w]; rw [c49b0]) | skip)
                replace H := Option.bind_eq_some_iff.mp H
                obtain ⟨t340, A500, H⟩ := H
                replace H : (laws_FnExactPartDigests.j0 k l0 l1 t315 t324 (!t340)) = some r := H
                have A50 := Aside0.mk A500
                clear A500
                have H' := Aside0.mk H
                clear H
                go_wp2_with (first | (go_at_call 43; (with_reducible refine (laws_eqIntS.calls k _ _ t324 _ _ t315 t340 _ ?side1 ?side2 ?side3 ?side4 A50.out).mono ?_); (case side1 => exact laws_FnExactPartDigests.s0 HO326.out); (case side2 => exact (Kd.R_reads' HO326.out).2.1); (case side3 => exact laws_FnExactPartDigests.s0 HO317.out); (case side4 => exact (Kd.R_reads' HO317.out).2.1); rintro e w' ⟨rfl, ⟨nd, rfl⟩⟩))
                go_meet
                case rel => exact ⟨_, (!t340), (by first | rfl | (simp; done) | (simp [*]; done) | (simp [bne_nil_, beq_nil_]; done)), H', ⟨by first | omega | exact Nat.le_refl _⟩, ⟨by (with_reducible repeat (first | apply Kd.R_alloc | apply Kd.R_drewN | apply Kd.R_drew)); exact HO317.out⟩, ⟨by (with_reducible repeat (first | apply Kd.R_alloc | apply Kd.R_drewN | apply Kd.R_drew)); exact HO326.out⟩, ⟨bp HB.out⟩⟩
            case rest =>
              clear HC26
              try clear c1
              try clear c2
              try clear p2
              try clear c3
              try clear c4
              try clear c4b0
              try clear p6
              try clear c7
              try clear c7b0
              try clear c17
              try clear c20
              try clear c23
              try clear c25
              try clear c28
              try clear c31
              try clear c33
              try clear c37
              try clear c39
              try clear c41
              try clear c42
              try clear c43
              try clear c44
              try clear c45
              try clear c49
              try clear c49b0
              obtain ⟨kq, x63_25, rfl, HA, HJ25, HO_6, HO_9, HB⟩ := hcut
              cases kq with
              | zero => exact absurd HA.out (by simp [laws_FnExactPartDigests.j0])
              | succ kj25 =>
                have H := HA.out
                clear HA
                simp only [laws_FnExactPartDigests.j0] at H
                by_cases c51 : x63_25 = true
                · subst c51
                  have H1 : (some false) = some r := by rw [if_pos rfl] at H; exact H
                  clear H
                  have H := H1
                  clear H1
                  obtain rfl := Option.some.inj H
                  exact absurd hrt.out (by simp)
                · replace c51 := Bool.eq_false_iff.mpr c51
                  subst c51
                  have H1 : ((laws_markIntS.f kj25 t324 1).bind fun bt341 => ((laws_heldIntS.f kj25 bt341.2 1).bind fun t343 => (if t343 < 0 then (some false) else (if t343 = bt341.1 then ((laws_toPairS.f kj25 l0).bind fun t344 => ((laws_toIntervalS.f kj25 l1).bind fun t347 => ((impl_PartDigests.f kj25 t344 t347).bind fun t350 => ((laws_eqIntS.f kj25 t350 t315).bind fun t353 => (if t353 = true then ((laws_heldIntS.f kj25 bt341.2 1).bind fun t354 => (if t354 < 0 then (some false) else (if t354 = bt341.1 then (some true) else (some false)))) else (some false)))))) else (some false))))) = some r := by rw [if_neg (show ¬ (false = true) by decide)] at H; exact H
                  clear H
                  have H := H1
                  clear H1
                  replace H := Option.bind_eq_some_iff.mp H
                  obtain ⟨⟨t341, t342⟩, A520, H⟩ := H
                  replace H : ((laws_heldIntS.f kj25 t342 1).bind fun t343 => (if t343 < 0 then (some false) else (if t343 = t341 then ((laws_toPairS.f kj25 l0).bind fun t344 => ((laws_toIntervalS.f kj25 l1).bind fun t347 => ((impl_PartDigests.f kj25 t344 t347).bind fun t350 => ((laws_eqIntS.f kj25 t350 t315).bind fun t353 => (if t353 = true then ((laws_heldIntS.f kj25 t342 1).bind fun t354 => (if t354 < 0 then (some false) else (if t354 = t341 then (some true) else (some false)))) else (some false)))))) else (some false)))) = some r := H
                  have A52 := Aside0.mk A520
                  clear A520
                  replace H := Option.bind_eq_some_iff.mp H
                  obtain ⟨t343, A530, H⟩ := H
                  replace H : (if t343 < 0 then (some false) else (if t343 = t341 then ((laws_toPairS.f kj25 l0).bind fun t344 => ((laws_toIntervalS.f kj25 l1).bind fun t347 => ((impl_PartDigests.f kj25 t344 t347).bind fun t350 => ((laws_eqIntS.f kj25 t350 t315).bind fun t353 => (if t353 = true then ((laws_heldIntS.f kj25 t342 1).bind fun t354 => (if t354 < 0 then (some false) else (if t354 = t341 then (some true) else (some false)))) else (some false)))))) else (some false))) = some r := H
                  have A53 := Aside0.mk A530
                  clear A530
                  by_cases c54 : t343 < 0
                  · rw [if_pos c54] at H
                    have c54b0 : decide (t343 < 0) = true := decide_eq_true c54
                    clear c54
                    obtain rfl := Option.some.inj H
                    exact absurd hrt.out (by simp)
                  · rw [if_neg c54] at H
                    have c54b0 : decide (t343 < 0) = false := decide_eq_false c54
                    clear c54
                    by_cases c55 : t343 = t341
                    · rw [if_pos c55] at H
                      have c55b0 : (t343 == t341) = true := beq_iff_eq.mpr c55
                      have c55b1 : (t343 != t341) = false := bne_eq_false_iff_eq.mpr c55
                      clear c55
                      replace H := Option.bind_eq_some_iff.mp H
                      obtain ⟨t344, A560, H⟩ := H
                      replace H : ((laws_toIntervalS.f kj25 l1).bind fun t347 => ((impl_PartDigests.f kj25 t344 t347).bind fun t350 => ((laws_eqIntS.f kj25 t350 t315).bind fun t353 => (if t353 = true then ((laws_heldIntS.f kj25 t342 1).bind fun t354 => (if t354 < 0 then (some false) else (if t354 = t341 then (some true) else (some false)))) else (some false))))) = some r := H
                      have A56 := Aside0.mk A560
                      clear A560
                      replace H := Option.bind_eq_some_iff.mp H
                      obtain ⟨t347, A570, H⟩ := H
                      replace H : ((impl_PartDigests.f kj25 t344 t347).bind fun t350 => ((laws_eqIntS.f kj25 t350 t315).bind fun t353 => (if t353 = true then ((laws_heldIntS.f kj25 t342 1).bind fun t354 => (if t354 < 0 then (some false) else (if t354 = t341 then (some true) else (some false)))) else (some false)))) = some r := H
                      have A57 := Aside0.mk A570
                      clear A570
                      replace H := Option.bind_eq_some_iff.mp H
                      obtain ⟨t350, A580, H⟩ := H
                      replace H : ((laws_eqIntS.f kj25 t350 t315).bind fun t353 => (if t353 = true then ((laws_heldIntS.f kj25 t342 1).bind fun t354 => (if t354 < 0 then (some false) else (if t354 = t341 then (some true) else (some false)))) else (some false))) = some r := H
                      have A58 := Aside0.mk A580
                      clear A580
                      replace H := Option.bind_eq_some_iff.mp H
                      obtain ⟨t353, A590, H⟩ := H
                      replace H : (if t353 = true then ((laws_heldIntS.f kj25 t342 1).bind fun t354 => (if t354 < 0 then (some false) else (if t354 = t341 then (some true) else (some false)))) else (some false)) = some r := H
                      have A59 := Aside0.mk A590
                      clear A590
                      by_cases c60 : t353 = true
                      · subst c60
                        have H1 : ((laws_heldIntS.f kj25 t342 1).bind fun t354 => (if t354 < 0 then (some false) else (if t354 = t341 then (some true) else (some false)))) = some r := by rw [if_pos rfl] at H; exact H
                        clear H
                        have H := H1
                        clear H1
                        replace H := Option.bind_eq_some_iff.mp H
                        obtain ⟨t354, A610, H⟩ := H
                        replace H : (if t354 < 0 then (some false) else (if t354 = t341 then (some true) else (some false))) = some r := H
                        have A61 := Aside0.mk A610
                        clear A610
                        by_cases c62 : t354 < 0
                        · rw [if_pos c62] at H
                          have c62b0 : decide (t354 < 0) = true := decide_eq_true c62
                          clear c62
                          obtain rfl := Option.some.inj H
                          exact absurd hrt.out (by simp)
                        · rw [if_neg c62] at H
                          have c62b0 : decide (t354 < 0) = false := decide_eq_false c62
                          clear c62
                          by_cases c63 : t354 = t341
                          · rw [if_pos c63] at H
                            have c63b0 : (t354 == t341) = true := beq_iff_eq.mpr c63
                            have c63b1 : (t354 != t341) = false := bne_eq_false_iff_eq.mpr c63
                            clear c63
                            obtain rfl := Option.some.inj H
                            go_wp2_with (first | ((with_reducible refine gate_callee (f := 46) rfl ?_); refine gsl (some 66) rfl Try.func46 #[.slice Ao39 t324.length co39, .int .i64 1] rfl ?_; (with_reducible refine (laws_markIntS.calls kj25 (fun k_ => some k_ = (.slice Ao39 t324.length co39 : Value).ownBlock) (.slice Ao39 t324.length co39) t324 1 t341 t342 w _ ?side1 ?side2 A52.out).mono ?_); (case side1 => exact laws_FnExactPartDigests.s1 HB.out); (case side2 => exact Kd.R_tight rfl HO_9.out); rintro e w64 ⟨rfl, hy0, hb, hkp⟩; refine ⟨_, rfl, ?_⟩; have n0_ := Aside0.mk (Kd.R_mono (ok' := fun k_ => some k_ ≠ (.slice Ao39 t324.length co39 : Value).ownBlock) (Kd.R_keptB (HO_6.out) hkp (fun k_ hk_ hs_ => (hk_) hs_)) (fun k_ hk_ => hk_.1)); have n1_ := Aside0.mk (Kd.R_reok rfl hy0 (fun k_ e_ => HO_9.out.1 k_ e_)); have n2_ := Aside0.mk (hb); clear HO_6; clear HO_9; clear HB; have HO_6 := n0_; have HO_9 := n1_; have HB := n2_; clear n0_ n1_ n2_; (try clear hb); (try clear hkp); (try clear hy0)) | ((with_reducible refine gate_callee (f := 47) rfl ?_); refine goesL_ (some 69) rfl rfl Try.func47 (by kernel_rfl) rfl #[.slice Ao39 t342.length co39, .int .i64 1] rfl (by (try simp only [List.map_toArray, List.map_cons, List.map_nil]); first | done | (rw [show t342.length = t324.length from (Kd.R_reads' HO_9.out).1.symm] <;> rfl) | rfl | (simp only [List.length_drop, List.length_take]; rfl)) ?_; (with_reducible refine (laws_heldIntS.calls kj25 _ _ t342 1 t343 _ ?side1 ?side2 A53.out).mono ?_); (case side1 => exact laws_FnExactPartDigests.s0 HO_9.out); (case side2 => rw [show t342.length = t324.length from (Kd.R_reads' HO_9.out).1.symm]; exact (Kd.R_reads' HO_9.out).2.1); rintro e w' ⟨rfl, ⟨nd, rfl⟩⟩; refine ⟨_, rfl, ?_⟩) | ((with_reducible refine gate_callee (f := 28) rfl ?_); refine gsl (some 76) rfl Try.func28 #[.slice A0 l0.length c0] rfl ?_; (with_reducible refine (laws_toPairS.calls kj25 _ _ l0 t344 _ ?side1 ?side2 A56.out).mono ?_); (case side1 => repeat (first | exact (Kd.C_below HR0.out (bp HB.out)) | (with_reducible refine Kd.C_alloc ?_ _) | (with_reducible refine Kd.C_drewN ?_ _) | (with_reducible refine Kd.C_drew ?_))); (case side2 => exact HC0.out); rintro e w65 ⟨v345, rfl, ho0, hb⟩; refine ⟨_, rfl, ?_⟩; have n0_ := Aside0.mk (Kd.R_below (kr HO_6.out) hb); have n1_ := Aside0.mk (Kd.R_below (kr HO_9.out) hb); have n2_ := Aside0.mk (Kd.R_lower ho0 (below_size (bp HB.out))); have n3_ := an0 HB hb; clear HO_6; clear HO_9; clear HB; have HO_6 := n0_; have HO_9 := n1_; have HO346 := n2_; have HB := n3_; clear n0_ n1_ n2_ n3_; (try clear hb); (try clear hb2); (try clear hk); (try clear hi); (try clear ho0)) | ((with_reducible refine gate_callee (f := 42) rfl ?_); refine gsl (some 78) rfl Try.func42 #[.slice A1 l1.length c1] rfl ?_; (with_reducible refine (laws_toIntervalS.calls kj25 _ _ l1 t347 _ ?side1 ?side2 A57.out).mono ?_); (case side1 => exact cc (Kd.C_below HR1.out HB.out)); (case side2 => exact HC1.out); rintro e w66 ⟨v348, rfl, ho0, hb⟩; refine ⟨_, rfl, ?_⟩; have n0_ := Aside0.mk (Kd.R_below (kr HO_6.out) hb); have n1_ := Aside0.mk (Kd.R_below (kr HO_9.out) hb); have n2_ := Aside0.mk (Kd.R_below (kr HO346.out) hb); have n3_ := Aside0.mk (Kd.R_lower ho0 (below_size (bp HB.out))); have n4_ := an0 HB hb; clear HO_6; clear HO_9; clear HO346; clear HB; have HO_6 := n0_; have HO_9 := n1_; have HO346 := n2_; have HO349 := n3_; have HB := n4_; clear n0_ n1_ n2_ n3_ n4_; (try clear hb); (try clear hb2); (try clear hk); (try clear hi); (try clear ho0); obtain ⟨Ao67, co67, eo67⟩ := Kd.R_slice HO346.out; subst eo67; obtain ⟨Ao68, co68, eo68⟩ := Kd.R_slice HO349.out; subst eo68) | ((with_reducible refine gate_callee (f := 37) rfl ?_); refine gsl (some 79) rfl Try.func37 #[.slice Ao67 t344.length co67, .slice Ao68 t347.length co68] rfl ?_; (with_reducible refine (impl_PartDigests.calls kj25 _ _ t344 _ _ t347 t350 _ ?side1 ?side2 ?side3 ?side4 A58.out).mono ?_); (case side1 => exact laws_FnExactPartDigests.s0 HO346.out); (case side2 => exact (Kd.R_reads' HO346.out).2.1); (case side3 => exact laws_FnExactPartDigests.s0 HO349.out); (case side4 => exact (Kd.R_reads' HO349.out).2.1); rintro e w69 ⟨v351, rfl, ho0, hb⟩; refine ⟨_, rfl, ?_⟩; have n0_ := Aside0.mk (Kd.R_elder' (kr HO_6.out) (Kd.R_base ho0) hb); have n1_ := Aside0.mk (Kd.R_elder' (kr HO_9.out) (Kd.R_base ho0) hb); have n2_ := Aside0.mk (Kd.R_below (kr HO346.out) hb); have n3_ := Aside0.mk (Kd.R_below (kr HO349.out) hb); have n4_ := Aside0.mk (Kd.R_lower (Kd.R_new' (Kd.R_new' ho0 (Kd.R_lt (kr HO_6.out))) (Kd.R_lt (kr HO_9.out))) (below_size (bp HB.out))); have n5_ := an0 HB hb; clear HO_6; clear HO_9; clear HO346; clear HO349; clear HB; have HO_6 := n0_; have HO_9 := n1_; have HO346 := n2_; have HO349 := n3_; have HO352 := n4_; have HB := n5_; clear n0_ n1_ n2_ n3_ n4_ n5_; (try clear hb); (try clear hb2); (try clear hk); (try clear hi); (try clear ho0); obtain ⟨Ao70, co70, eo70⟩ := Kd.R_slice HO352.out; subst eo70) | ((with_reducible refine gate_callee (f := 43) rfl ?_); refine gsl (some 82) rfl Try.func43 #[.slice Ao70 t350.length co70, .slice Ao40 t315.length co40] rfl ?_; (with_reducible refine (laws_eqIntS.calls kj25 _ _ t350 _ _ t315 true _ ?side1 ?side2 ?side3 ?side4 A59.out).mono ?_); (case side1 => exact laws_FnExactPartDigests.s0 HO352.out); (case side2 => exact (Kd.R_reads' HO352.out).2.1); (case side3 => exact laws_FnExactPartDigests.s0 HO_6.out); (case side4 => exact (Kd.R_reads' HO_6.out).2.1); rintro e w' ⟨rfl, ⟨nd, rfl⟩⟩; refine ⟨_, rfl, ?_⟩) | ((with_reducible refine gate_callee (f := 47) rfl ?_); refine goesL_ (some 86) rfl rfl Try.func47 (by kernel_rfl) rfl #[.slice Ao39 t342.length co39, .int .i64 1] rfl (by (try simp only [List.map_toArray, List.map_cons, List.map_nil]); first | done | (rw [show t342.length = t324.length from (Kd.R_reads' HO_9.out).1.symm] <;> rfl) | rfl | (simp only [List.length_drop, List.length_take]; rfl)) ?_; (with_reducible refine (laws_heldIntS.calls kj25 _ _ t342 1 t354 _ ?side1 ?side2 A61.out).mono ?_); (case side1 => exact laws_FnExactPartDigests.s0 HO_9.out); (case side2 => rw [show t342.length = t324.length from (Kd.R_reads' HO_9.out).1.symm]; exact (Kd.R_reads' HO_9.out).2.1); rintro e w' ⟨rfl, ⟨nd, rfl⟩⟩; refine ⟨_, rfl, ?_⟩))
                            go_ret
                            exact ⟨fe, bp HB.out⟩
                          · rw [if_neg c63] at H
                            have c63b0 : (t354 == t341) = false := beq_eq_false_iff_ne.mpr c63
                            have c63b1 : (t354 != t341) = true := bne_iff_ne.mpr c63
                            obtain rfl := Option.some.inj H
                            exact absurd hrt.out (by simp)
                      · replace c60 := Bool.eq_false_iff.mpr c60
                        subst c60
                        have H1 : (some false) = some r := by rw [if_neg (show ¬ (false = true) by decide)] at H; exact H
                        clear H
                        have H := H1
                        clear H1
                        obtain rfl := Option.some.inj H
                        exact absurd hrt.out (by simp)
                    · rw [if_neg c55] at H
                      have c55b0 : (t343 == t341) = false := beq_eq_false_iff_ne.mpr c55
                      have c55b1 : (t343 != t341) = true := bne_iff_ne.mpr c55
                      obtain rfl := Option.some.inj H
                      exact absurd hrt.out (by simp)
          · replace c23 := Bool.eq_false_iff.mpr c23
            subst c23
            have H1 : (some false) = some r := by rw [if_neg (show ¬ (false = true) by decide)] at H; exact H
            clear H
            have H := H1
            clear H1
            obtain rfl := Option.some.inj H
            exact absurd hrt.out (by simp)
        · replace c20 := Bool.eq_false_iff.mpr c20
          subst c20
          have H1 : (some false) = some r := by rw [if_neg (show ¬ (false = true) by decide)] at H; exact H
          clear H
          have H := H1
          clear H1
          obtain rfl := Option.some.inj H
          exact absurd hrt.out (by simp)
      · replace c17 := Bool.eq_false_iff.mpr c17
        subst c17
        have H1 : (some false) = some r := by rw [if_neg (show ¬ (false = true) by decide)] at H; exact H
        clear H
        have H := H1
        clear H1
        obtain rfl := Option.some.inj H
        exact absurd hrt.out (by simp)

end Go.Proofs.Ytfeeifefmenlmaa.PFnExactPartDigests
