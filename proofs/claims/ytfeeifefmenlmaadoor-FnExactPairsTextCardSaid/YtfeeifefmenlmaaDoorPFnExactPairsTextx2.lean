-- Written by a program of this session, in the manner of the kit's print (wip/pp.py): functions and their contracts.
import Derived.Test.YtfeeifefmenlmaaDoorPFnExactPairsTextx0
import Derived.Test.YtfeeifefmenlmaaDoorPFnExactPairsTextx1
namespace Go.Proofs.YtfeeifefmenlmaaDoor.PFnExactPairsText
open Go.RowKit Go.Proofs.YtfeeifefmenlmaaDoorW.PrintWords Go.Proofs.YtfeeifefmenlmaaDoorW.PrintLast Go.Proofs.YtfeeifefmenlmaaDoorW.PrintMore
attribute [local go_sem] binOp_leq_str binOp_gtr_str binOp_geq_str max2_int min2_int max_two min_two max_three min_three max_four min_four Instr.field asAgg   -- for this text's walks alone
set_option linter.unusedVariables false
set_option linter.unusedSimpArgs false

/-! ### laws_toPairS: function 6 -/
def laws_toPairS.l0 : Nat → List (S31) → List (S33) → Int → Option ((List (S33)))
  | 0, _, _, _ => none
  | k + 1, a, b, c => if c < (a.length : Int) then (if 0 ≤ c then ((laws_toPair.f ((rd_T31 a c).f0) ((rd_T31 a c).f1)).bind fun bt131 => (if c < (b.length : Int) then (laws_toPairS.l0 k a (b.set (c : Int).toNat (⟨bt131.1, bt131.2⟩ : S33)) (wrap64 (c + 1))) else (none))) else (none)) else (some b)
def laws_toPairS.f (k : Nat) (l0 : List (S31)) : Option ((List (S33))) := if 0 ≤ (l0.length : Int) then (if ((l0.length : Int) : Int).toNat ≤ 11728124029610 then (laws_toPairS.l0 k l0 (List.replicate ((l0.length : Int) : Int).toNat z33) 0) else (none)) else (none)
theorem laws_toPairS.mono_l : ∀ k, (∀ y0 y1 y2, LeO (laws_toPairS.l0 k y0 y1 y2) (laws_toPairS.l0 (k + 1) y0 y1 y2))
  | 0 => fun _ _ _ r h => by simp [laws_toPairS.l0] at h
  | k + 1 => by
    have ih0 := laws_toPairS.mono_l k
    · intro y0 y1 y2
      unfold laws_toPairS.l0
      repeat' with_reducible first | exact ih0 _ _ _ | exact LeO.refl _ | exact LeO.none _ | refine LeO.ite ?_ ?_ | refine LeO.bind ?_ (fun _ => ?_)
theorem laws_toPairS.mono : ∀ a0 k, LeO (laws_toPairS.f k a0) (laws_toPairS.f (k + 1) a0) := by
 intro a0 k; have ih0 := laws_toPairS.mono_l k; unfold laws_toPairS.f; repeat' with_reducible first | exact ih0 _ _ _ | exact LeO.refl _ | exact LeO.none _ | refine LeO.ite ?_ ?_ | refine LeO.bind ?_ (fun _ => ?_)
set_option maxHeartbeats 8000000 in
set_option maxRecDepth 100000 in
theorem laws_toPairS.calls (k : Nat) (A0 : Option Addr) (c0 : Nat) (l0 : List (S31)) (r : List (S33)) (w : World) (hr0 : Kd.C k31 w A0 l0.length l0) (hc0 : l0.length ≤ c0) (h : laws_toPairS.f k l0 = some r) :
    Calls Tryd.prog 6 #[.slice A0 l0.length c0] w fun e w' => ∃ v0_ : Value, e = .returned (v0_) ∧ Kd.R k33 33 w' w.heap.size (fun _ => True) v0_ r ∧ Below w.heap.size w w' := by
 have hu31 := Tryd.underlying31; have hu33 := Tryd.underlying33; have HR0 := Aside0.mk hr0; have HC0 := Aside0.mk hc0; clear hr0 hc0; have HB := Aside0.mk (Below.refl w.heap.size w); unfold laws_toPairS.f at h; have H := h; clear h; by_cases c2 : 0 ≤ (l0.length : Int)
 ·rw [if_pos c2] at H; have c2b0 := eq_true c2; have c2b1 : decide (0 ≤ (l0.length : Int)) = true := decide_eq_true c2; clear c2; by_cases c3 : ((l0.length : Int) : Int).toNat ≤ 11728124029610
  ·rw [if_pos c3] at H; have c3b0 := eq_true c3; have c3b1 : decide (((l0.length : Int) : Int).toNat ≤ 11728124029610) = true := decide_eq_true c3; clear c3; obtain ⟨y127, hy127⟩ : ∃ y_ : List (S33), y_ = (List.replicate ((l0.length : Int) : Int).toNat z33) := ⟨_, rfl⟩; (replace H : (laws_toPairS.l0 k l0 y127 0) = some r := zsy H hy127); have Ny127 := Aside0.mk hy127; clear hy127; have H' := Aside0.mk H; clear H; go_enter Tryd.func6, Tryd.ntmps6; (go_wp2_with (first | ((with_reducible refine gate_dst (N := 7) rfl ?_); refine Kd.R_make k33 _ 33 rfl (N := 7) rfl 25 _ _ rfl (l0.length : Int) rfl rfl Tryd.underlying25 (.agg #[(.string ⟨#[]⟩), (.int .i64 0)]) 24 info33 rfl (by decide) (by omega) z33 (ok := fun _ => True) (okp := fun _ => True) (k33_mkM _ _ _ z33 ) (fun _ hk => hk) trivial (zda) (Nat.le_trans (Nat.mul_le_mul_right _ (zda : (l0.length : Int).toNat ≤ 11728124029610)) (by omega)) (Below.refl _ _) (Nat.le_refl _) ?_; intro v128 w4 ho5 hb hg_ hnew_; clear hg_ hnew_; (first | rw [← Ny127.out] at ho5 | (simp only [Int.reduceToNat] at ho5; rw [← Ny127.out] at ho5)); have n_ := zn2 (Aside0.mk (Kd.R_lower ho5 (below_size (bp HB.out)))) (an0 HB hb); clear HB; obtain ⟨HO129, HB⟩ := n_; clear hb ho5))); go_loopg [4] k (fun kq v4 w' => ∃ (x3_1 : List (S33)) (x4_1 : Int), v4 = .int .i64 x4_1 ∧ Aside0 (laws_toPairS.l0 kq l0 x3_1 x4_1 = some r) ∧ Aside0 (kq ≤ k) ∧ Aside0 (Kd.R k33 33 w' w.heap.size (fun _ => True) v128 x3_1) ∧ Aside0 (Below w.heap.size w w')); case atStart => exact ⟨(y127), (0), zfe, H', ⟨Nat.le_refl _⟩, ⟨by (with_reducible repeat (first | apply Kd.R_alloc | apply Kd.R_drewN | apply Kd.R_drew)); exact HO129.out⟩, ⟨bp HB.out⟩⟩
   case round =>
    clear H'; (try clear c2); (try clear c2b0); (try clear c2b1); (try clear c3); (try clear c3b0); (try clear c3b1); obtain ⟨x3_1, x4_1, rfl, HA, HK1, HO_3, HB⟩ := hrel
    cases gk with
    | zero => exact absurd HA.out (by simp [laws_toPairS.l0])
    | succ k1 =>
     have H := HA.out; clear HA; simp only [laws_toPairS.l0] at H; by_cases c6 : x4_1 < (l0.length : Int)
     ·rw [if_pos c6] at H; have c6b0 : decide (x4_1 < (l0.length : Int)) = true := decide_eq_true c6; clear c6; by_cases c7 : 0 ≤ x4_1
      ·rw [if_pos c7] at H; have c7b0 : decide (0 ≤ x4_1) = true := decide_eq_true c7; clear c7; obtain ⟨⟨t131, t132⟩, A8, H⟩ := zbd H; (try dsimp only at H); by_cases c9 : x4_1 < (x3_1.length : Int)
       ·rw [if_pos c9] at H; have c9b0 : decide (x4_1 < (x3_1.length : Int)) = true := decide_eq_true c9; clear c9; obtain ⟨y133, hy133⟩ : ∃ y_ : List (S33), y_ = (x3_1.set (x4_1 : Int).toNat (⟨t131, t132⟩ : S33)) := ⟨_, rfl⟩; (replace H : (laws_toPairS.l0 k1 l0 y133 (wrap64 (x4_1 + 1))) = some r := zsy H hy133); have Ny133 := Aside0.mk hy133; clear hy133; have H' := Aside0.mk H; clear H; have p130 : 0 ≤ (x4_1 : Int) := zda; have q130 : x4_1 < (l0.length : Int) := zda; obtain ⟨ad130, e130, hx130_0, hx130_1⟩ := at_T31 HR0.out x4_1 p130 q130; cases e130; replace hx130_0 := hcx HB hx130_0; replace hx130_1 := hcx HB hx130_1; replace p130 := eq_true p130; replace q130 := eq_true q130; (go_wp2_with (first | ((with_reducible refine gate_callee (f := 12) rfl ?_); refine goesL_ (some 20) rfl rfl Tryd.func12 (by kernel_rfl) rfl #[.agg #[.string ((rd_T31 l0 x4_1).f0), .int .i64 ((rd_T31 l0 x4_1).f1)]] rfl (by (try simp only [List.map_toArray, List.map_cons, List.map_nil]); first | done | rfl | (simp only [List.length_drop, List.length_take]; rfl)) ?_; (with_reducible refine (laws_toPair.calls ((rd_T31 l0 x4_1).f0) ((rd_T31 l0 x4_1).f1) t131 t132 _ A8.out).mono ?_); rintro e w11 ⟨rfl, hb⟩; refine ⟨_, rfl, ?_⟩; have n_ := zn2 (Aside0.mk (Kd.R_below (kr HO_3.out) hb)) (an0 HB hb); clear HO_3 HB; obtain ⟨HO_3, HB⟩ := n_; (try clear hb); (try clear hb2); (try clear hk); (try clear hi); (try clear hgw); have p10 : 0 ≤ (x4_1 : Int) := zda; have q10 : (x4_1 : Int) < ((x3_1.length : Int) : Int) := zda; obtain ⟨go10, co10, eo10, gb10, gl10, cl10, HG10⟩ := Kd.R_form HO_3.out (by omega); (first | cases eo10 | (injection eo10 with ea_ en_ ec_; (first | subst ea_ | (injection ea_ with ea_; subst ea_)); subst ec_; clear en_)); have GB10 := Aside0.mk gb10; have GG10 := Aside0.mk HG10; clear gb10 gl10 HG10; obtain ⟨ce10, hcl10, hM10, hcc10, hfr10⟩ := Kd.R_elem HO_3.out z33 (x4_1 : Int) p10 q10; obtain rfl := k33_openM hM10; have hx10_0 : w11.cell? ⟨go10, (x4_1 : Int).toNat * 2, none⟩ = some (.string ((rd_T33 x3_1 x4_1).f0)) := hcc10 0 _ rfl; have hx10_1 : w11.cell? ⟨go10, (x4_1 : Int).toNat * 2 + 1, none⟩ = some (.int .i64 ((rd_T33 x3_1 x4_1).f1)) := hcc10 1 _ rfl; have hf10_0 : w11.frozen? ⟨go10, (x4_1 : Int).toNat * 2, none⟩ = false := hfr10 0; have hf10_1 : w11.frozen? ⟨go10, (x4_1 : Int).toNat * 2 + 1, none⟩ = false := hfr10 1; clear hcl10 hcc10 hfr10 hM10; replace p10 := eq_true p10; replace q10 := eq_true q10; have HX12 := Aside0.mk (show Kd.R k33 33 w11 w.heap.size (fun _ => True) (.slice (some ⟨go10, 0, none⟩) x3_1.length co10) x3_1 from (kr HO_3.out)); obtain ⟨ce12, hcl12, hM12, hcc12, hfr12⟩ := Kd.R_elem HX12.out z33 (x4_1 : Int) (zda) (by have h_ : (x4_1 : Int) < ((x3_1.length : Int) : Int) := zda; first | exact h_ | (have e_ := (Kd.R_reads' HO_3.out).1; omega) | simpa using h_); obtain rfl := k33_openM hM12; have HP12 := Kd.R_seg HX12.out (x4_1 : Int) (zda) (by have h_ : (x4_1 : Int) < ((x3_1.length : Int) : Int) := zda; first | exact h_ | (have e_ := (Kd.R_reads' HO_3.out).1; omega) | simpa using h_) (seg := [.string t131, .int .i64 t132]) (j := 0) hcl12 hcc12 (show 2 ≤ 2 from by decide) (x' := (⟨t131, t132⟩ : S33)) (k33_mkM _ _ _ (⟨t131, t132⟩ : S33) ) (fun _ hk => hk); have hx12_0 := hcc12 0 _ rfl; (try simp only [show (k33).sz = 2 from rfl, Nat.mul_one, Nat.add_zero] at hx12_0); have hf12_0 := hfr12 0; (try simp only [show (k33).sz = 2 from rfl, Nat.mul_one, Nat.add_zero] at hf12_0); have hx12_1 := hcc12 1 _ rfl; (try simp only [show (k33).sz = 2 from rfl, Nat.mul_one, Nat.add_zero] at hx12_1); have hf12_1 := hfr12 1; (try simp only [show (k33).sz = 2 from rfl, Nat.mul_one, Nat.add_zero] at hf12_1); clear hcl12 hcc12 hfr12 hM12) | ((with_reducible refine gate_store (t := 33) (p := 21) rfl ?_); refine store_event (t := 33) (p := 21) (v := ?vo_w13) (w1 := ((w11.setCell ⟨go10, (x4_1 : Int).toNat * 2, none⟩ (.string t131)).setCell ⟨go10, (x4_1 : Int).toNat * 2 + 1, none⟩ (.int .i64 t132))) ?hg ?ho ?hn ?hr ?_; (case ho => rfl); (case hg => rfl); (case hn => rfl); (case hr => first | (go_simp; done) | (go_simp; rfl)); intro w13 hw; have hg : w11.grownBy w13 (some go10) := (by rw [hw]; exact HP12.2); have hp_ : Kd.R k33 33 w13 w.heap.size (fun _ => True) (.slice (some ⟨go10, 0, none⟩) x3_1.length co10) y133 := (by rw [hw, Ny133.out]; exact HP12.1); clear HP12; have n_ := zn2 (Aside0.mk (hp_)) (Aside0.mk ((by rw [hw]; exact below_set (below_set (HB.out) GB10.out) GB10.out : Below w.heap.size w w13))); clear HO_3 HB; obtain ⟨HO_3, HB⟩ := n_; clear hg hw hp_))); go_roundg k1; (case measure => have := HK1.out; omega); case rel => exact ⟨(y133), (wrap64 (x4_1 + 1)), zfe, H', ⟨by have := HK1.out; omega⟩, ⟨by (with_reducible repeat (first | apply Kd.R_alloc | apply Kd.R_drewN | apply Kd.R_drew)); exact HO_3.out⟩, ⟨bp HB.out⟩⟩
       ·rw [if_neg c9] at H; exact absurd H (by simp)
      ·rw [if_neg c7] at H; exact absurd H (by simp)
     ·rw [if_neg c6] at H; have c6b0 : decide (x4_1 < (l0.length : Int)) = false := decide_eq_false c6; clear c6; obtain rfl := Option.some.inj H; go_wp2; go_ret; exact ⟨_, fe, by (with_reducible repeat (first | apply Kd.R_alloc | apply Kd.R_drewN | apply Kd.R_drew)); exact HO_3.out, bp HB.out⟩
  ·rw [if_neg c3] at H; exact absurd H (by simp)
 ·rw [if_neg c2] at H; exact absurd H (by simp)
/-! ### impl_lettersOnly: function 25 -/
def impl_lettersOnly.f : Nat → ByteArray → Option (Bool)
  | 0, _ => none
  | k + 1, a0 => if a0.toList = ([] : List UInt8) then (some true) else (if 0 < (a0.size : Int) then (if (bt a0 0) ≥ 97 then (if (bt a0 0) ≤ 122 then (if 1 ≤ (a0.size : Int) then ((impl_lettersOnly.f k (a0.extract 1 a0.size)).bind fun t134 => (some t134)) else (none)) else (some false)) else (some false)) else (none))
theorem impl_lettersOnly.mono_l : ∀ k, (∀ y0, LeO (impl_lettersOnly.f k y0) (impl_lettersOnly.f (k + 1) y0))
  | 0 => fun _ r h => by simp [impl_lettersOnly.f] at h
  | k + 1 => by
    have ih0 := impl_lettersOnly.mono_l k
    · intro y0
      unfold impl_lettersOnly.f
      repeat' with_reducible first | exact ih0 _ | exact LeO.refl _ | exact LeO.none _ | refine LeO.ite ?_ ?_ | refine LeO.bind ?_ (fun _ => ?_)
theorem impl_lettersOnly.mono : ∀ a0 k, LeO (impl_lettersOnly.f k a0) (impl_lettersOnly.f (k + 1) a0) := by
 intro a0 k; have ih0 := impl_lettersOnly.mono_l k; exact ih0 a0
set_option maxHeartbeats 8000000 in
set_option maxRecDepth 100000 in
theorem impl_lettersOnly.calls (k : Nat) : ∀ (a0 : ByteArray) (r : Bool) (w : World) (h : impl_lettersOnly.f k a0 = some r),
    Calls Tryd.prog 25 #[.string a0] w fun e w' => e = .returned (.bool r) ∧ Drawn0 w w' := by
 induction k using Nat.strongRecOn with
 | _ k ih =>
 intro a0 r w h
 cases k with
 | zero => exact absurd h (by simp [impl_lettersOnly.f])
 | succ k =>
 simp only [impl_lettersOnly.f] at h; have H : (if a0.toList = ([] : List UInt8) then (some true) else (if 0 < (a0.size : Int) then (if (bt a0 0) ≥ 97 then (if (bt a0 0) ≤ 122 then (if 1 ≤ (a0.size : Int) then ((impl_lettersOnly.f k (a0.extract 1 a0.size)).bind fun t134 => (some t134)) else (none)) else (some false)) else (some false)) else (none))) = some r := h; clear h; by_cases c2 : a0.toList = ([] : List UInt8)
 ·rw [if_pos c2] at H; have c2b0 : (a0.toList == ([] : List UInt8)) = true := beq_iff_eq.mpr c2; have c2b1 : (a0.toList != ([] : List UInt8)) = false := bne_eq_false_iff_eq.mpr c2; clear c2; obtain rfl := Option.some.inj H; go_enter Tryd.func25, Tryd.ntmps25; go_wp2; go_ret; exact ⟨zfe, zdr⟩
 ·rw [if_neg c2] at H; have c2b0 : (a0.toList == ([] : List UInt8)) = false := beq_eq_false_iff_ne.mpr c2; have c2b1 : (a0.toList != ([] : List UInt8)) = true := bne_iff_ne.mpr c2; by_cases c3 : 0 < (a0.size : Int)
  ·rw [if_pos c3] at H; have c3b0 : decide (0 < (a0.size : Int)) = true := decide_eq_true c3; (have c3b1 : decide (0 < a0.size) = true := decide_eq_true (by omega)); clear c3; by_cases c5 : (bt a0 0) ≥ 97
   ·rw [if_pos c5] at H; have c5b0 : decide (97 ≤ (bt a0 0)) = true := decide_eq_true c5; clear c5; by_cases c7 : (bt a0 0) ≤ 122
    ·rw [if_pos c7] at H; have c7b0 : decide ((bt a0 0) ≤ 122) = true := decide_eq_true c7; clear c7; by_cases c8 : 1 ≤ (a0.size : Int)
     ·rw [if_pos c8] at H; have c8b0 := eq_true c8; have c8b1 : decide (1 ≤ (a0.size : Int)) = true := decide_eq_true c8; clear c8; obtain ⟨t134, A9, H⟩ := zbd H; (try dsimp only at H); obtain rfl := Option.some.inj H; (have p4 : 0 ≤ (0 : Int) := (by omega)); (have q4 : 0 < a0.size := (by have : (0 : Int) < (a0.size : Int) := zda; omega)); have hx4 : ∀ h : 0 < a0.size, ((a0[0]'h).toNat : Int) = bt a0 0 := bt_at a0 0; clear p4; have qi4 : (0 < (a0.size : Int)) = True := eq_true (zda); replace q4 := eq_true q4; (have p6 : 0 ≤ (0 : Int) := (by omega)); (have q6 : 0 < a0.size := (by have : (0 : Int) < (a0.size : Int) := zda; omega)); have hx6 : ∀ h : 0 < a0.size, ((a0[0]'h).toNat : Int) = bt a0 0 := bt_at a0 0; clear p6; have qi6 : (0 < (a0.size : Int)) = True := eq_true (zda); replace q6 := eq_true q6; go_enter Tryd.func25, Tryd.ntmps25; (go_wp2_with (first | (go_at_call 25; (with_reducible refine (ih k (by omega) (a0.extract 1 a0.size) t134 _ A9.out).mono ?_); rintro e w' ⟨rfl, ⟨nd, rfl⟩⟩))); go_ret; exact ⟨zfe, zdr⟩
     ·rw [if_neg c8] at H; exact absurd H (by simp)
    ·rw [if_neg c7] at H; have c7b0 : decide ((bt a0 0) ≤ 122) = false := decide_eq_false c7; clear c7; obtain rfl := Option.some.inj H; (have p4 : 0 ≤ (0 : Int) := (by omega)); (have q4 : 0 < a0.size := (by have : (0 : Int) < (a0.size : Int) := zda; omega)); have hx4 : ∀ h : 0 < a0.size, ((a0[0]'h).toNat : Int) = bt a0 0 := bt_at a0 0; clear p4; have qi4 : (0 < (a0.size : Int)) = True := eq_true (zda); replace q4 := eq_true q4; (have p6 : 0 ≤ (0 : Int) := (by omega)); (have q6 : 0 < a0.size := (by have : (0 : Int) < (a0.size : Int) := zda; omega)); have hx6 : ∀ h : 0 < a0.size, ((a0[0]'h).toNat : Int) = bt a0 0 := bt_at a0 0; clear p6; have qi6 : (0 < (a0.size : Int)) = True := eq_true (zda); replace q6 := eq_true q6; go_enter Tryd.func25, Tryd.ntmps25; go_wp2; go_ret; exact ⟨zfe, zdr⟩
   ·rw [if_neg c5] at H; have c5b0 : decide (97 ≤ (bt a0 0)) = false := decide_eq_false c5; clear c5; obtain rfl := Option.some.inj H; (have p4 : 0 ≤ (0 : Int) := (by omega)); (have q4 : 0 < a0.size := (by have : (0 : Int) < (a0.size : Int) := zda; omega)); have hx4 : ∀ h : 0 < a0.size, ((a0[0]'h).toNat : Int) = bt a0 0 := bt_at a0 0; clear p4; have qi4 : (0 < (a0.size : Int)) = True := eq_true (zda); replace q4 := eq_true q4; go_enter Tryd.func25, Tryd.ntmps25; go_wp2; go_ret; exact ⟨zfe, zdr⟩
  ·rw [if_neg c3] at H; exact absurd H (by simp)
/-! ### impl_KeyValid: function 19 -/
def impl_KeyValid.f (k : Nat) (a0 : ByteArray) : Option (Bool) := if (a0.size : Int) < 1 then (some false) else (if (a0.size : Int) > 4 then (some false) else ((impl_lettersOnly.f k a0).bind fun t135 => (some t135)))
theorem impl_KeyValid.mono : ∀ a0 k, LeO (impl_KeyValid.f k a0) (impl_KeyValid.f (k + 1) a0) := by
 intro a0 k; unfold impl_KeyValid.f; repeat' with_reducible first | exact impl_lettersOnly.mono .. | exact LeO.refl _ | exact LeO.none _ | refine LeO.ite ?_ ?_ | refine LeO.bind ?_ (fun _ => ?_)
set_option maxHeartbeats 8000000 in
set_option maxRecDepth 100000 in
theorem impl_KeyValid.calls (k : Nat) (a0 : ByteArray) (r : Bool) (w : World) (h : impl_KeyValid.f k a0 = some r) :
    Calls Tryd.prog 19 #[.string a0] w fun e w' => e = .returned (.bool r) ∧ Drawn0 w w' := by
 unfold impl_KeyValid.f at h; have H := h; clear h; by_cases c2 : (a0.size : Int) < 1
 ·rw [if_pos c2] at H; have c2b0 : decide ((a0.size : Int) < 1) = true := decide_eq_true c2; (have c2b1 : decide (a0.size < 1) = true := decide_eq_true (by omega)); clear c2; obtain rfl := Option.some.inj H; go_enter Tryd.func19, Tryd.ntmps19; go_wp2; go_ret; exact ⟨zfe, zdr⟩
 ·rw [if_neg c2] at H; have c2b0 : decide ((a0.size : Int) < 1) = false := decide_eq_false c2; (have c2b1 : decide (a0.size < 1) = false := decide_eq_false (by omega)); clear c2; by_cases c3 : (a0.size : Int) > 4
  ·rw [if_pos c3] at H; have c3b0 : decide (4 < (a0.size : Int)) = true := decide_eq_true c3; (have c3b1 : decide (4 < a0.size) = true := decide_eq_true (by omega)); clear c3; obtain rfl := Option.some.inj H; go_enter Tryd.func19, Tryd.ntmps19; go_wp2; go_ret; exact ⟨zfe, zdr⟩
  ·rw [if_neg c3] at H; have c3b0 : decide (4 < (a0.size : Int)) = false := decide_eq_false c3; (have c3b1 : decide (4 < a0.size) = false := decide_eq_false (by omega)); clear c3; obtain ⟨t135, A4, H⟩ := zbd H; (try dsimp only at H); obtain rfl := Option.some.inj H; go_enter Tryd.func19, Tryd.ntmps19; (go_wp2_with (first | ((with_reducible refine gate_callee (f := 25) rfl ?_); refine goesL_ (some 12) rfl rfl Tryd.func25 (by kernel_rfl) rfl #[.string a0] rfl (by (try simp only [List.map_toArray, List.map_cons, List.map_nil]); first | done | rfl | (simp only [List.length_drop, List.length_take]; rfl)) ?_; (with_reducible refine (impl_lettersOnly.calls k a0 t135 _ A4.out).mono ?_); rintro e w' ⟨rfl, ⟨nd, rfl⟩⟩; refine ⟨_, rfl, ?_⟩))); go_ret; exact ⟨zfe, zdr⟩
/-! ### impl_valueValid: function 20 -/
def impl_valueValid.f (a0 : Int) : Option (Bool) := if a0 ≥ 0 then (some (decide (a0 ≤ 999))) else (some false)
set_option maxHeartbeats 8000000 in
set_option maxRecDepth 100000 in
theorem impl_valueValid.calls (a0 : Int) (r : Bool) (w : World) (h : impl_valueValid.f a0 = some r) :
    Calls Tryd.prog 20 #[.int .i64 a0] w fun e w' => e = .returned (.bool r) ∧ Drawn0 w w' := by
 unfold impl_valueValid.f at h; have H := h; clear h; by_cases c2 : a0 ≥ 0
 ·rw [if_pos c2] at H; have c2b0 : decide (0 ≤ a0) = true := decide_eq_true c2; clear c2; obtain rfl := Option.some.inj H; go_enter Tryd.func20, Tryd.ntmps20; go_wp2; go_ret; exact ⟨zfe, zdr⟩
 ·rw [if_neg c2] at H; have c2b0 : decide (0 ≤ a0) = false := decide_eq_false c2; clear c2; obtain rfl := Option.some.inj H; go_enter Tryd.func20, Tryd.ntmps20; go_wp2; go_ret; exact ⟨zfe, zdr⟩
/-! ### impl_PairsValid: function 13 -/
mutual
def impl_PairsValid.l0 : Nat → List (S33) → List (S33) → Int → Int → Option (Bool)
  | 0, _, _, _, _ => none
  | k + 1, a, b, c, d => if d < c then (if 0 ≤ d then (if d < (b.length : Int) then ((impl_KeyValid.f k ((rd_T33 b d).f0)).bind fun t138 => (if t138 = true then ((impl_valueValid.f ((rd_T33 b d).f1)).bind fun t139 => (impl_PairsValid.j1 k a d b c d (!t139) ((rd_T33 b d).f0) ((rd_T33 b d).f1))) else (impl_PairsValid.j1 k a d b c d true ((rd_T33 b d).f0) ((rd_T33 b d).f1)))) else (none)) else (none)) else (some true)
def impl_PairsValid.j1 : Nat → List (S33) → Int → List (S33) → Int → Int → Bool → ByteArray → Int → Option (Bool)
  | 0, _, _, _, _, _, _, _, _ => none
  | k + 1, a, b, c, d, e, f, g, i => if f = true then (some false) else (if b > 0 then (if 0 ≤ (wrap64 (b - 1)) then (if (wrap64 (b - 1)) < (a.length : Int) then (if ((Op.bytesLess (((rd_T33 a (wrap64 (b - 1))).f0).toList) g.toList) = true) then (impl_PairsValid.l0 k a c d (wrap64 (e + 1))) else (some false)) else (none)) else (none)) else (impl_PairsValid.l0 k a c d (wrap64 (e + 1))))
end
def impl_PairsValid.f (k : Nat) (l0 : List (S33)) : Option (Bool) := if (l0.length : Int) > 48 then (some false) else (impl_PairsValid.l0 k l0 l0 (l0.length : Int) 0)
theorem impl_PairsValid.mono_l : ∀ k, (∀ y0 y1 y2 y3, LeO (impl_PairsValid.l0 k y0 y1 y2 y3) (impl_PairsValid.l0 (k + 1) y0 y1 y2 y3)) ∧ (∀ y0 y1 y2 y3 y4 y5 y6 y7, LeO (impl_PairsValid.j1 k y0 y1 y2 y3 y4 y5 y6 y7) (impl_PairsValid.j1 (k + 1) y0 y1 y2 y3 y4 y5 y6 y7))
  | 0 => ⟨fun _ _ _ _ r h => by simp [impl_PairsValid.l0] at h, fun _ _ _ _ _ _ _ _ r h => by simp [impl_PairsValid.j1] at h⟩
  | k + 1 => by
    obtain ⟨ih0, ih1⟩ := impl_PairsValid.mono_l k
    refine ⟨?_, ?_⟩
    · intro y0 y1 y2 y3
      unfold impl_PairsValid.l0
      repeat' with_reducible first | exact ih0 _ _ _ _ | exact ih1 .. | exact impl_KeyValid.mono .. | exact LeO.refl _ | exact LeO.none _ | refine LeO.ite ?_ ?_ | refine LeO.bind ?_ (fun _ => ?_)
    · intro y0 y1 y2 y3 y4 y5 y6 y7
      unfold impl_PairsValid.j1
      repeat' with_reducible first | exact ih0 _ _ _ _ | exact ih1 .. | exact impl_KeyValid.mono .. | exact LeO.refl _ | exact LeO.none _ | refine LeO.ite ?_ ?_ | refine LeO.bind ?_ (fun _ => ?_)
theorem impl_PairsValid.mono : ∀ a0 k, LeO (impl_PairsValid.f k a0) (impl_PairsValid.f (k + 1) a0) := by
 intro a0 k; obtain ⟨ih0, ih1⟩ := impl_PairsValid.mono_l k; unfold impl_PairsValid.f; repeat' with_reducible first | exact ih0 _ _ _ _ | exact ih1 .. | exact impl_KeyValid.mono .. | exact LeO.refl _ | exact LeO.none _ | refine LeO.ite ?_ ?_ | refine LeO.bind ?_ (fun _ => ?_)
set_option maxHeartbeats 8000000 in
set_option maxRecDepth 100000 in
theorem impl_PairsValid.calls (k : Nat) (A0 : Option Addr) (c0 : Nat) (l0 : List (S33)) (r : Bool) (w : World) (hr0 : Kd.C k33 w A0 l0.length l0) (hc0 : l0.length ≤ c0) (h : impl_PairsValid.f k l0 = some r) :
    Calls Tryd.prog 13 #[.slice A0 l0.length c0] w fun e w' => e = .returned (.bool r) ∧ Below w.heap.size w w' := by
 have hu33 := Tryd.underlying33; have HR0 := Aside0.mk hr0; have HC0 := Aside0.mk hc0; clear hr0 hc0; have HB := Aside0.mk (Below.refl w.heap.size w); unfold impl_PairsValid.f at h; have H := h; clear h; by_cases c2 : (l0.length : Int) > 48
 ·rw [if_pos c2] at H; have c2b0 : decide (48 < (l0.length : Int)) = true := decide_eq_true c2; (have c2b1 : decide (48 < l0.length) = true := decide_eq_true (by omega)); clear c2; obtain rfl := Option.some.inj H; go_enter Tryd.func13, Tryd.ntmps13; go_wp2; (repeat (go_quiet (fail); try go_wp2)); go_ret; exact ⟨fe, bp HB.out⟩
 ·rw [if_neg c2] at H; have c2b0 : decide (48 < (l0.length : Int)) = false := decide_eq_false c2; (have c2b1 : decide (48 < l0.length) = false := decide_eq_false (by omega)); clear c2; have H' := Aside0.mk H; clear H; go_enter Tryd.func13, Tryd.ntmps13; go_wp2; (repeat (go_quiet (fail); try go_wp2)); go_loopg [10] k (fun kq v10 w' => ∃ (x10_1 : Int), v10 = .int .i64 x10_1 ∧ Aside0 (impl_PairsValid.l0 kq l0 l0 (l0.length : Int) x10_1 = some r) ∧ Aside0 (kq ≤ k) ∧ Aside0 (Below w.heap.size w w')); case atStart => exact ⟨(0), zfe, H', ⟨Nat.le_refl _⟩, ⟨bp HB.out⟩⟩
  case round =>
   clear H'; (try clear c1); (try clear c2); (try clear c2b0); (try clear c2b1); (try clear p2); obtain ⟨x10_1, rfl, HA, HK1, HB⟩ := hrel
   cases gk with
   | zero => exact absurd HA.out (by simp [impl_PairsValid.l0])
   | succ k1 =>
    have H := HA.out; clear HA; simp only [impl_PairsValid.l0] at H; by_cases c3 : x10_1 < (l0.length : Int)
    ·rw [if_pos c3] at H; have c3b0 : decide (x10_1 < (l0.length : Int)) = true := decide_eq_true c3; clear c3; by_cases c4 : 0 ≤ x10_1
     ·rw [if_pos c4] at H; have c4b0 : decide (0 ≤ x10_1) = true := decide_eq_true c4; clear c4; by_cases c5 : x10_1 < (l0.length : Int)
      ·rw [if_pos c5] at H; have c5b0 : decide (x10_1 < (l0.length : Int)) = true := decide_eq_true c5; clear c5; have HC6 := Aside0.mk H; clear H; have p136 : 0 ≤ (x10_1 : Int) := zda; have q136 : x10_1 < (l0.length : Int) := zda; obtain ⟨ad136, e136, hx136_0, hx136_1⟩ := at_T33 HR0.out x10_1 p136 q136; cases e136; replace hx136_0 := hcx HB hx136_0; replace hx136_1 := hcx HB hx136_1; replace p136 := eq_true p136; replace q136 := eq_true q136; (go_upto_region 6 with (first | ((with_reducible refine gate_dst (N := 4) rfl ?_); refine bxe (N := 4) (cs := #[.string (⟨#[]⟩ : ByteArray), .int .i64 0]) (t := 33) ?_; intro gb137 hg w7 hbox hb; have BK137 := Aside0.mk (hbox); have GW137 := an2 HB hg; have GE137 := an2 HB hg; replace HB := an0 HB hb; clear hb hbox hg; obtain ⟨z8a, z8b, f8a, f8b⟩ := cl2 BK137))); (repeat (go_quiet (first | ((with_reducible refine gate_dst (N := 4) rfl ?_); refine bxe (N := 4) (cs := #[.string (⟨#[]⟩ : ByteArray), .int .i64 0]) (t := 33) ?_; intro gb137 hg w7 hbox hb; have BK137 := Aside0.mk (hbox); have GW137 := an2 HB hg; have GE137 := an2 HB hg; replace HB := an0 HB hb; clear hb hbox hg; obtain ⟨z8a, z8b, f8a, f8b⟩ := cl2 BK137)); go_upto_region 6 with (first | ((with_reducible refine gate_dst (N := 4) rfl ?_); refine bxe (N := 4) (cs := #[.string (⟨#[]⟩ : ByteArray), .int .i64 0]) (t := 33) ?_; intro gb137 hg w7 hbox hb; have BK137 := Aside0.mk (hbox); have GW137 := an2 HB hg; have GE137 := an2 HB hg; replace HB := an0 HB hb; clear hb hbox hg; obtain ⟨z8a, z8b, f8a, f8b⟩ := cl2 BK137)))); (try simp only [Act.put, List.setIfInBounds_toArray, List.set_cons_zero, List.set_cons_succ]); go_cut [24] (fun v24 wc => ∃ (kq : Nat) (x24_5 : Bool), v24 = .bool x24_5 ∧ Aside0 (impl_PairsValid.j1 kq l0 x10_1 l0 (l0.length : Int) x10_1 x24_5 ((rd_T33 l0 x10_1).f0) ((rd_T33 l0 x10_1).f1) = some r) ∧ Aside0 (kq ≤ k1) ∧ Aside0 (wc.heap[gb137]? = some (.cells #[.string ((rd_T33 l0 x10_1).f0), .int .i64 ((rd_T33 l0 x10_1).f1)] 33 (0, 0))) ∧ Aside0 (Below w.heap.size w wc))
       case first =>
        have H := HC6.out; clear HC6; obtain ⟨t138, A9, H⟩ := zbd H; (try dsimp only at H); by_cases c10 : t138 = true
        ·subst c10; rw [if_pos rfl] at H; obtain ⟨t139, A11, H⟩ := zbd H; (try dsimp only at H); have H' := Aside0.mk H; clear H; obtain ⟨z12a, z12b, f12a, f12b⟩ := cl2 BK137; (go_wp2_with (first | (go_at_call 19; (with_reducible refine (impl_KeyValid.calls k1 ((rd_T33 l0 x10_1).f0) true _ A9.out).mono ?_); rintro e w' ⟨rfl, ⟨nd, rfl⟩⟩; (try exact zdd)) | (go_at_call 20; (with_reducible refine (impl_valueValid.calls ((rd_T33 l0 x10_1).f1) t139 _ A11.out).mono ?_); rintro e w' ⟨rfl, ⟨nd, rfl⟩⟩; (try exact zdd)))); (repeat (go_quiet (first | (go_at_call 19; (with_reducible refine (impl_KeyValid.calls k1 ((rd_T33 l0 x10_1).f0) true _ A9.out).mono ?_); rintro e w' ⟨rfl, ⟨nd, rfl⟩⟩; (try exact zdd)) | (go_at_call 20; (with_reducible refine (impl_valueValid.calls ((rd_T33 l0 x10_1).f1) t139 _ A11.out).mono ?_); rintro e w' ⟨rfl, ⟨nd, rfl⟩⟩; (try exact zdd))); try go_wp2_with (first | (go_at_call 19; (with_reducible refine (impl_KeyValid.calls k1 ((rd_T33 l0 x10_1).f0) true _ A9.out).mono ?_); rintro e w' ⟨rfl, ⟨nd, rfl⟩⟩; (try exact zdd)) | (go_at_call 20; (with_reducible refine (impl_valueValid.calls ((rd_T33 l0 x10_1).f1) t139 _ A11.out).mono ?_); rintro e w' ⟨rfl, ⟨nd, rfl⟩⟩; (try exact zdd))))); go_meet; case rel => exact ⟨_, (!t139), zfe, H', ⟨by have := HK1.out; first | omega | exact Nat.le_refl _⟩, ⟨by exact zb0 BK137.out⟩, ⟨bp HB.out⟩⟩
        ·replace c10 := Bool.eq_false_iff.mpr c10; subst c10; rw [if_neg zft] at H; have H' := Aside0.mk H; clear H; obtain ⟨z13a, z13b, f13a, f13b⟩ := cl2 BK137; (go_wp2_with (first | (go_at_call 19; (with_reducible refine (impl_KeyValid.calls k1 ((rd_T33 l0 x10_1).f0) false _ A9.out).mono ?_); rintro e w' ⟨rfl, ⟨nd, rfl⟩⟩; (try exact zdd)))); (repeat (go_quiet (first | (go_at_call 19; (with_reducible refine (impl_KeyValid.calls k1 ((rd_T33 l0 x10_1).f0) false _ A9.out).mono ?_); rintro e w' ⟨rfl, ⟨nd, rfl⟩⟩; (try exact zdd))); try go_wp2_with (first | (go_at_call 19; (with_reducible refine (impl_KeyValid.calls k1 ((rd_T33 l0 x10_1).f0) false _ A9.out).mono ?_); rintro e w' ⟨rfl, ⟨nd, rfl⟩⟩; (try exact zdd))))); go_meet; case rel => exact ⟨_, (true), zfe, H', ⟨by have := HK1.out; first | omega | exact Nat.le_refl _⟩, ⟨by exact zb0 BK137.out⟩, ⟨bp HB.out⟩⟩
       case rest =>
        clear HC6; (try clear c2); (try clear c2b0); (try clear c2b1); (try clear c3); (try clear c3b0); (try clear c4); (try clear c4b0); (try clear c5); (try clear c5b0); (try clear z8a); (try clear z8b); (try clear f8a); (try clear f8b); (try clear hx136_0); (try clear hx136_1); (try clear p136); (try clear q136); obtain ⟨kq, x24_5, rfl, HA, HJ5, BK137, HB⟩ := hcut
        cases kq with
        | zero => exact absurd HA.out (by simp [impl_PairsValid.j1])
        | succ kj5 =>
         have H := HA.out; clear HA; simp only [impl_PairsValid.j1] at H; by_cases c14 : x24_5 = true
         ·subst c14; rw [if_pos rfl] at H; obtain rfl := Option.some.inj H; go_wp2; (repeat (go_quiet (fail); try go_wp2)); go_ret; exact ⟨fe, bp HB.out⟩
         ·replace c14 := Bool.eq_false_iff.mpr c14; subst c14; rw [if_neg zft] at H; by_cases c15 : x10_1 > 0
          ·rw [if_pos c15] at H; have c15b0 : decide (0 < x10_1) = true := decide_eq_true c15; clear c15; obtain ⟨ji16, hji16⟩ : ∃ j_ : Int, (wrap64 (x10_1 - 1)) = j_ := ⟨_, rfl⟩; (replace H : (if 0 ≤ (ji16) then (if (ji16) < (l0.length : Int) then (if ((Op.bytesLess (((rd_T33 l0 (ji16)).f0).toList) ((rd_T33 l0 x10_1).f0).toList) = true) then (impl_PairsValid.l0 kj5 l0 l0 (l0.length : Int) (wrap64 (x10_1 + 1))) else (some false)) else (none)) else (none)) = some r := by first | (rw [hji16] at H; exact H) | (simp only [hji16] at H ⊢; exact H)); have hji16w : (IntKind.i64.wrap (x10_1 - 1)) = ji16 := (i64_w _).trans hji16; by_cases c17 : 0 ≤ (ji16)
           ·rw [if_pos c17] at H; have c17b0 : decide (0 ≤ (ji16)) = true := decide_eq_true c17; clear c17; by_cases c18 : (ji16) < (l0.length : Int)
            ·rw [if_pos c18] at H; have c18b0 : decide ((ji16) < (l0.length : Int)) = true := decide_eq_true c18; clear c18; by_cases c19 : ((Op.bytesLess (((rd_T33 l0 (ji16)).f0).toList) ((rd_T33 l0 x10_1).f0).toList) = true)
             ·rw [if_pos c19] at H; have c19b0 : (Op.bytesLess (((rd_T33 l0 (ji16)).f0).toList) ((rd_T33 l0 x10_1).f0).toList) = true := c19; clear c19; have H' := Aside0.mk H; clear H; have p140 : 0 ≤ ((ji16) : Int) := zda; have q140 : (ji16) < (l0.length : Int) := zda; obtain ⟨ad140, e140, hx140_0, hx140_1⟩ := at_T33 HR0.out (ji16) p140 q140; (obtain rfl : ad136 = ad140 := (by injection e140)); replace hx140_0 := hcx HB hx140_0; replace hx140_1 := hcx HB hx140_1; replace p140 := eq_true p140; replace q140 := eq_true q140; obtain ⟨z20a, z20b, f20a, f20b⟩ := cl2 BK137; go_wp2; (repeat (go_quiet (fail); try go_wp2)); go_roundg kj5; (case measure => have := HK1.out; have := HJ5.out; omega); case rel => exact ⟨(wrap64 (x10_1 + 1)), zfe, H', ⟨by have := HK1.out; have := HJ5.out; omega⟩, ⟨bp HB.out⟩⟩
             ·rw [if_neg c19] at H; (have c19b0 : (Op.bytesLess (((rd_T33 l0 (ji16)).f0).toList) ((rd_T33 l0 x10_1).f0).toList) = false := by simpa using c19); clear c19; obtain rfl := Option.some.inj H; have p140 : 0 ≤ ((ji16) : Int) := zda; have q140 : (ji16) < (l0.length : Int) := zda; obtain ⟨ad140, e140, hx140_0, hx140_1⟩ := at_T33 HR0.out (ji16) p140 q140; (obtain rfl : ad136 = ad140 := (by injection e140)); replace hx140_0 := hcx HB hx140_0; replace hx140_1 := hcx HB hx140_1; replace p140 := eq_true p140; replace q140 := eq_true q140; obtain ⟨z21a, z21b, f21a, f21b⟩ := cl2 BK137; go_wp2; (repeat (go_quiet (fail); try go_wp2)); go_ret; exact ⟨by first | rfl | (simp [errW_none, errW_some] <;> rfl) | (simp only [← hji16]; first | rfl | (simp [errW_none, errW_some] <;> rfl)) | (simp [*, errW_none, errW_some] <;> rfl) | (simp only [IntKind.wrap_u8, show ∀ n_ : Int, wrap64 (n_ % 256) = n_ % 256 from fun n_ => by unfold wrap64; omega]; rfl), bp HB.out⟩
            ·rw [if_neg c18] at H; exact absurd H (by simp)
           ·rw [if_neg c17] at H; exact absurd H (by simp)
          ·rw [if_neg c15] at H; have c15b0 : decide (0 < x10_1) = false := decide_eq_false c15; clear c15; have H' := Aside0.mk H; clear H; go_wp2; (repeat (go_quiet (fail); try go_wp2)); go_roundg kj5; (case measure => have := HK1.out; have := HJ5.out; omega); case rel => exact ⟨(wrap64 (x10_1 + 1)), zfe, H', ⟨by have := HK1.out; have := HJ5.out; omega⟩, ⟨bp HB.out⟩⟩
      ·rw [if_neg c5] at H; exact absurd H (by simp)
     ·rw [if_neg c4] at H; exact absurd H (by simp)
    ·rw [if_neg c3] at H; have c3b0 : decide (x10_1 < (l0.length : Int)) = false := decide_eq_false c3; clear c3; obtain rfl := Option.some.inj H; go_wp2; (repeat (go_quiet (fail); try go_wp2)); go_ret; exact ⟨fe, bp HB.out⟩
/-! ### strconv_Itoa: function 14 -/
def strconv_Itoa.f (a0 : Int) : Option (ByteArray) := if -9223372036854775808 ≤ a0 ∧ a0 ≤ 9223372036854775807 then some ⟨(Lib.itoa a0).toArray⟩ else none
theorem strconv_Itoa.calls (a0 : Int) (r : ByteArray) (w : World) (h : strconv_Itoa.f a0 = some r) (HTAB : Tabs w := by first | exact HTAB | exact tabB HTAB HB.out | exact tabB HTAB (bp HB.out)) :
    Calls Tryd.prog 14 #[.int .i64 a0] w fun e w' => e = .returned (.string r) ∧ Below w.heap.size w w' := by
  unfold strconv_Itoa.f at h
  split at h
  · next hh =>
    obtain rfl := Option.some.inj h
    exact (Tryd.strconv_Itoa a0 hh.1 hh.2 w HTAB).mono fun e w' ⟨he, k, os, hw⟩ => ⟨he, hw ▸ below_grow_drawn k os⟩
  · cases h

/-! ### strings_Join: function 15 -/
def strings_Join.f (l0 : List (ByteArray)) (a1 : ByteArray) : Option (ByteArray) := if l0.length ≤ 140737488355328 ∧ (Lib.join (l0.map (·.data.toList)) a1.data.toList).length ≤ 140737488355328 then some ⟨(Lib.join (l0.map (·.data.toList)) a1.data.toList).toArray⟩ else none
theorem strings_Join.calls (A0 : Option Addr) (c0 : Nat) (l0 : List (ByteArray)) (a1 : ByteArray) (r : ByteArray) (w : World) (hr0 : Kd.C Kd.string w A0 l0.length l0) (hc0 : l0.length ≤ c0) (h : strings_Join.f l0 a1 = some r) :
    Calls Tryd.prog 15 #[.slice A0 l0.length c0, .string a1] w fun e w' => e = .returned (.string r) ∧ Below w.heap.size w w' := by
  unfold strings_Join.f at h
  split at h
  · next hh =>
    obtain rfl := Option.some.inj h
    by_cases h0 : l0 = []
    · subst h0
      exact (Tryd.strings_Join_none A0 c0 a1 w).mono fun e w' ⟨he, hw⟩ => ⟨he, hw ▸ Below.refl _ _⟩
    · obtain ⟨bk, o, rfl, hb, hc⟩ := str_cells hr0 h0
      exact Tryd.strings_Join bk o c0 l0 a1 w hc hb hh.1 hc0 hh.2
  · cases h

/-! ### impl_PairsText: function 7 -/
def impl_PairsText.l0 : Nat → List ByteArray → List (S33) → Int → Int → Option (ByteArray)
  | 0, _, _, _, _ => none
  | k + 1, a, b, c, d => if d < c then (if 0 ≤ d then (if d < (b.length : Int) then (if ((rd_T33 b d).f0).size + 1 ≤ 9223372036854775807 then ((strconv_Itoa.f ((rd_T33 b d).f1)).bind fun t144 => (if (((rd_T33 b d).f0) ++ (⟨#[61]⟩ : ByteArray)).size + t144.size ≤ 9223372036854775807 then (if a.length < 8796093022208 then (impl_PairsText.l0 k (a ++ [(((rd_T33 b d).f0) ++ (⟨#[61]⟩ : ByteArray)) ++ t144]) b c (wrap64 (d + 1))) else (none)) else (none))) else (none)) else (none)) else (none)) else ((strings_Join.f a (⟨#[32]⟩ : ByteArray)).bind fun t148 => (some t148))
def impl_PairsText.f (k : Nat) (l0 : List (S33)) : Option (ByteArray) := (impl_PairsValid.f k l0).bind fun t141 => (if t141 = true then (impl_PairsText.l0 k ([] : List ByteArray) l0 (l0.length : Int) 0) else (some (⟨#[]⟩ : ByteArray)))
theorem impl_PairsText.mono_l : ∀ k, (∀ y0 y1 y2 y3, LeO (impl_PairsText.l0 k y0 y1 y2 y3) (impl_PairsText.l0 (k + 1) y0 y1 y2 y3))
  | 0 => fun _ _ _ _ r h => by simp [impl_PairsText.l0] at h
  | k + 1 => by
    have ih0 := impl_PairsText.mono_l k
    · intro y0 y1 y2 y3
      unfold impl_PairsText.l0
      repeat' with_reducible first | exact ih0 _ _ _ _ | exact impl_PairsValid.mono .. | exact LeO.refl _ | exact LeO.none _ | refine LeO.ite ?_ ?_ | refine LeO.bind ?_ (fun _ => ?_)
theorem impl_PairsText.mono : ∀ a0 k, LeO (impl_PairsText.f k a0) (impl_PairsText.f (k + 1) a0) := by
 intro a0 k; have ih0 := impl_PairsText.mono_l k; unfold impl_PairsText.f; repeat' with_reducible first | exact ih0 _ _ _ _ | exact impl_PairsValid.mono .. | exact LeO.refl _ | exact LeO.none _ | refine LeO.ite ?_ ?_ | refine LeO.bind ?_ (fun _ => ?_)
def impl_PairsText.T7 : Bool × List (List Nat × List Nat) := (true, [([], []), ([], []), ([1], [1]), ([2], [2]), ([], []), ([4], [4]), ([5], [5]), ([3, 6], [3, 6]), ([7], [7]), ([0, 8, 6], [0, 8]), ([9, 9, 0, 1, 2, 3, 4, 5, 6, 7, 8, 9], [0, 9])])
def impl_PairsText.B7 : List Nat := [0, 0, 2, 6, 0, 16, 48, 126, 254, 511, 1023]
theorem impl_PairsText.tab7 : rtab .any (opsOf Tryd.f7 7) = impl_PairsText.T7 := by kernel_rfl
theorem impl_PairsText.bits7 : waitsOk impl_PairsText.T7.2 impl_PairsText.B7 = true := by kernel_rfl
def q7m0 : Array Bool := Array.replicate 11 false
def q7m1 : Array Bool := mkB 11 1
def q7m2 : Array Bool := mkB 11 3
def q7m3 : Array Bool := mkB 11 19
def q7m4 : Array Bool := mkB 11 23
def q7m5 : Array Bool := mkB 11 31
def q7m6 : Array Bool := mkB 11 63
def q7m7 : Array Bool := mkB 11 127
def q7m8 : Array Bool := mkB 11 255
def q7m9 : Array Bool := mkB 11 511
def q7m10 : Array Bool := mkB 11 1023
def q7m11 : Array Bool := mkB 11 2047
set_option maxHeartbeats 8000000 in
set_option maxRecDepth 100000 in
theorem impl_PairsText.calls (k : Nat) (A0 : Option Addr) (c0 : Nat) (l0 : List (S33)) (r : ByteArray) (w : World) (hr0 : Kd.C k33 w A0 l0.length l0) (hc0 : l0.length ≤ c0) (h : impl_PairsText.f k l0 = some r) (HTAB : Tabs w := by first | exact HTAB | exact tabB HTAB HB.out | exact tabB HTAB (bp HB.out)) :
    Calls Tryd.prog 7 #[.slice A0 l0.length c0] w fun e w' => e = .returned (.string r) ∧ Below w.heap.size w w' := by
 have hu33 := Tryd.underlying33; have HR0 := Aside0.mk hr0; have HC0 := Aside0.mk hc0; clear hr0 hc0; have HB := Aside0.mk (Below.refl w.heap.size w); unfold impl_PairsText.f at h; have H := h; clear h; obtain ⟨t141, A2, H⟩ := zbd H; (try dsimp only at H); have HC3 := Aside0.mk H; clear H; go_enter Tryd.func7, Tryd.ntmps7; (go_upto_if 8 with (first | ((with_reducible refine gate_callee (f := 13) rfl ?_); refine goesL_ (some 7) rfl rfl Tryd.func13 (by kernel_rfl) rfl #[.slice A0 l0.length c0] rfl (by (try simp only [List.map_toArray, List.map_cons, List.map_nil]); first | done | rfl | (simp only [List.length_drop, List.length_take]; rfl)) ?_; (with_reducible refine (impl_PairsValid.calls k _ _ l0 t141 _ ?side1 ?side2 A2.out).mono ?_); (case side1 => exact cc HR0.out); (case side2 => exact HC0.out); rintro e w4 ⟨rfl, hb⟩; refine ⟨_, rfl, ?_⟩; replace HB := an0 HB hb; (try clear hb); (try clear hb2); (try clear hk); (try clear hi); (try clear hgw)))); (try simp only [Act.put, List.setIfInBounds_toArray, List.set_cons_zero, List.set_cons_succ]); have H := HC3.out; clear HC3; by_cases c5 : t141 = true
 ·subst c5; rw [if_pos rfl] at H; have H' := Aside0.mk H; clear H; go_wp2; go_loopg [3, 11] k (fun kq v3 v11 w' => ∃ (x3_1 : List ByteArray) (x11_1 : Int), v11 = .int .i64 x11_1 ∧ Aside0 (impl_PairsText.l0 kq x3_1 l0 (l0.length : Int) x11_1 = some r) ∧ Aside0 (kq ≤ k) ∧ Aside0 (Kd.R Kd.string 9 w' w.heap.size (fun _ => True) v3 x3_1) ∧ Aside0 (Below w.heap.size w w')); case atStart => exact ⟨(([] : List ByteArray)), (0), zfe, H', ⟨Nat.le_refl _⟩, ⟨by first | exact Kd.R_nil _ _ _ _ _ | exact Kd.N_nil _ _ _ _ _ | exact Kd.V_nil _ _ _ _ _ | exact Kd.Q_nil _ _ _ _ _ | exact Kd.S_nil _ _ _ _ _⟩, ⟨bp HB.out⟩⟩
  case round =>
   clear H'; (try clear c1); (try clear p2); (try clear c5); obtain ⟨x3_1, x11_1, rfl, HA, HK1, HO_3, HB⟩ := hrel
   cases gk with
   | zero => exact absurd HA.out (by simp [impl_PairsText.l0])
   | succ k1 =>
    have H := HA.out; clear HA; simp only [impl_PairsText.l0] at H; by_cases c6 : x11_1 < (l0.length : Int)
    ·rw [if_pos c6] at H; have c6b0 : decide (x11_1 < (l0.length : Int)) = true := decide_eq_true c6; clear c6; (first | rw [c6b0] | (simp only [i64_w, i32_w]; rw [c6b0]) | skip); by_cases c7 : 0 ≤ x11_1
     ·rw [if_pos c7] at H; have c7b0 : decide (0 ≤ x11_1) = true := decide_eq_true c7; clear c7; by_cases c8 : x11_1 < (l0.length : Int)
      ·rw [if_pos c8] at H; have c8b0 : decide (x11_1 < (l0.length : Int)) = true := decide_eq_true c8; clear c8; by_cases c9 : ((rd_T33 l0 x11_1).f0).size + 1 ≤ 9223372036854775807
       ·rw [if_pos c9] at H; have c9b0 := eq_true c9; have c9b1 : decide (((rd_T33 l0 x11_1).f0).size + 1 ≤ 9223372036854775807) = true := decide_eq_true c9; (try have c9b2 : (9223372036854775807 < ((rd_T33 l0 x11_1).f0).size + 1) = False := eq_false (Nat.not_lt.2 c9)); obtain ⟨t144, A10, H⟩ := zbd H; (try dsimp only at H); by_cases c11 : (((rd_T33 l0 x11_1).f0) ++ (⟨#[61]⟩ : ByteArray)).size + t144.size ≤ 9223372036854775807
        ·rw [if_pos c11] at H; have c11b0 := eq_true c11; have c11b1 : decide ((((rd_T33 l0 x11_1).f0) ++ (⟨#[61]⟩ : ByteArray)).size + t144.size ≤ 9223372036854775807) = true := decide_eq_true c11; (try have c11b2 : (9223372036854775807 < (((rd_T33 l0 x11_1).f0) ++ (⟨#[61]⟩ : ByteArray)).size + t144.size) = False := eq_false (Nat.not_lt.2 c11)); (try (have c11b3 := c11b2; conv at c11b3 => (lhs; simp [go_sem]))); by_cases c12 : x3_1.length < 8796093022208
         ·rw [if_pos c12] at H; have LMc12 := Aside0.mk c12; clear c12; obtain ⟨y145, hy145⟩ : ∃ y_ : List ByteArray, y_ = (x3_1 ++ [(((rd_T33 l0 x11_1).f0) ++ (⟨#[61]⟩ : ByteArray)) ++ t144]) := ⟨_, rfl⟩; (replace H : (impl_PairsText.l0 k1 y145 l0 (l0.length : Int) (wrap64 (x11_1 + 1))) = some r := zsy H hy145); have Ny145 := Aside0.mk hy145; clear hy145; have H' := Aside0.mk H; clear H; have p142 : 0 ≤ (x11_1 : Int) := zda; have q142 : x11_1 < (l0.length : Int) := zda; obtain ⟨ad142, e142, hx142_0, hx142_1⟩ := at_T33 HR0.out x11_1 p142 q142; cases e142; replace hx142_0 := hcx HB hx142_0; replace hx142_1 := hcx HB hx142_1; replace p142 := eq_true p142; replace q142 := eq_true q142; (try go_wp2_with (first | ((with_reducible refine gate_dst (N := 5) rfl ?_); refine bxe (N := 5) (cs := #[.string (⟨#[]⟩ : ByteArray), .int .i64 0]) (t := 33) ?_; intro gb143 hg w13 hbox hb; have n_ := zn5 (Aside0.mk (Kd.R_below (kr HO_3.out) hb)) (an0 HB hb) (Aside0.mk (hbox)) (an2 HB hg) (an2 HB hg); clear HO_3 HB; obtain ⟨HO_3, HB, BK143, GW143, GE143⟩ := n_; clear hb hbox hg; obtain ⟨z14a, z14b, f14a, f14b⟩ := cl2 BK143))); (have n0_ : Aside0 (Kd.R Kd.string 9 ((w13.setCell ⟨gb143, 0, none⟩ (.string ((rd_T33 l0 x11_1).f0))).setCell ⟨gb143, 1, none⟩ (.int .i64 ((rd_T33 l0 x11_1).f1))) w.heap.size (fun _ => True) u3 x3_1) := ⟨by (with_reducible repeat (first | apply Kd.R_alloc | apply Kd.R_drewN | apply Kd.R_drew)); exact Kd.R_mono (Kd.R_far (p := ⟨gb143, 1, none⟩) (Kd.R_far (p := ⟨gb143, 0, none⟩) (Kd.R_types HO_3.out BK143.out (by decide)) (fun _ hk => hk.2) (.string ((rd_T33 l0 x11_1).f0))) (fun _ hk => hk.2) (.int .i64 ((rd_T33 l0 x11_1).f1))) (fun _ hk => trivial)⟩); (have n1_ : Aside0 (((w13.setCell ⟨gb143, 0, none⟩ (.string ((rd_T33 l0 x11_1).f0))).setCell ⟨gb143, 1, none⟩ (.int .i64 ((rd_T33 l0 x11_1).f1))).heap[gb143]? = some (.cells #[.string ((rd_T33 l0 x11_1).f0), .int .i64 ((rd_T33 l0 x11_1).f1)] 33 (0, 0))) := ⟨by exact zb0 BK143.out⟩); have n2_ : Aside0 (Below w.heap.size w ((w13.setCell ⟨gb143, 0, none⟩ (.string ((rd_T33 l0 x11_1).f0))).setCell ⟨gb143, 1, none⟩ (.int .i64 ((rd_T33 l0 x11_1).f1)))) := ⟨bp HB.out⟩; (try clear HO_3); (try clear BK143); (try clear HB); generalize ((w13.setCell ⟨gb143, 0, none⟩ (.string ((rd_T33 l0 x11_1).f0))).setCell ⟨gb143, 1, none⟩ (.int .i64 ((rd_T33 l0 x11_1).f1))) = w15 at n0_ n1_ n2_ ⊢; have HO_3 := n0_; have BK143 := n1_; have HB := n2_; clear n0_ n1_ n2_; have n0_ := Aside0.mk (Kd.R_drew HO_3.out); have n1_ := Aside0.mk (blk_drew BK143.out); have n2_ := Aside0.mk (below_drew1 HB.out); clear HO_3; clear BK143; clear HB; have HO_3 := n0_; have BK143 := n1_; have HB := n2_; clear n0_ n1_ n2_; (refine start_ (n := 11) (S := fun w' => w'.cell? ⟨gb143, 0, none⟩ = some (.string ((rd_T33 l0 x11_1).f0)) ∧ w'.cell? ⟨gb143, 1, none⟩ = some (.int .i64 ((rd_T33 l0 x11_1).f1))) (ds := []) q7m0 (by kernel_rfl) rfl rfl ⟨(blk_cell BK143.out 0).trans rfl, (blk_cell BK143.out 1).trans rfl⟩ (fun hHeld => ?_); refine with_tabW impl_PairsText.tab7 impl_PairsText.bits7 (fun HT_ HW_ => ?_)); generalize w15.drew = w16 at HO_3 BK143 HB hHeld ⊢; refine zp 0 15 q7m1 HT_.out ?_; refine zp 1 16 q7m2 HT_.out ?_; refine zp 4 19 q7m3 HT_.out ?_; refine tak (i := 2) (N := some 17) q7m4 rfl rfl HT_.out HW_.out hHeld ?_; refine zp 3 18 q7m5 HT_.out ?_; refine tak (i := 5) (N := some 20) q7m6 rfl rfl HT_.out HW_.out hHeld ?_; refine ones (i := 6) (N := some 21) q7m7 rfl rfl HT_.out (fun K hK => ?_); refine gos Tryd.func14 #[.int .i64 ((rd_T33 l0 x11_1).f1)] rfl ?_; (with_reducible refine (strconv_Itoa.calls ((rd_T33 l0 x11_1).f1) t144 _ A10.out).mono ?_); rintro e w17 ⟨rfl, hb⟩; refine ⟨_, rfl, ?_⟩; have n0_ := Aside0.mk (Kd.R_below (kr HO_3.out) hb); have n1_ := an1 BK143 hb; have n2_ := an0 HB hb; clear HO_3; clear BK143; clear HB; have HO_3 := n0_; have BK143 := n1_; have HB := n2_; clear n0_ n1_ n2_; (try clear hb); (try clear hk); refine hK.out _ _ (zc2 BK143) (fun hHeld => ?_); clear hK K; refine norm_ (a' := ?_) ?_ ?_; rotate_left
          ·show Act.put _ (some 21) _ = _; simp only [Act.put, List.setIfInBounds_toArray, List.set_cons_zero, List.set_cons_succ, i64_w, i32_w]; rfl
          refine zp 7 22 q7m8 HT_.out ?_; refine ones (i := 8) (N := some 23) q7m9 rfl rfl HT_.out (fun K hK => ?_); (refine value_ (w1 := ?_) (v := ?_) (by rfl) rfl ?_ ?_); rotate_left 2
          ·go_simp; constructor
           ·rfl
           ·rfl
          refine hK.out _ _ ⟨(blk_cell (blk_alloc BK143.out _) 0).trans rfl, (blk_cell (blk_alloc BK143.out _) 1).trans rfl⟩ (fun hHeld => ?_); clear hK K; refine norm_ (a' := ?_) ?_ ?_; rotate_left
          ·show Act.put _ (some 23) _ = _; simp only [Act.put, List.setIfInBounds_toArray, List.set_cons_zero, List.set_cons_succ, i64_w, i32_w]; rfl
          refine ones (i := 9) (N := some 24) q7m10 rfl rfl HT_.out (fun K hK => ?_); (refine Kd.R_append_step Kd.string (w0 := w) w.heap.size (by rfl) (.tmp 15) (.tmp 23) 36 9 (.string ⟨#[]⟩) 16 rfl Tryd.underlying36 info9 rfl (by decide) (by omega) u3 x3_1 ((((rd_T33 l0 x11_1).f0) ++ (⟨#[61]⟩ : ByteArray)) ++ t144) [.string ((((rd_T33 l0 x11_1).f0) ++ (⟨#[61]⟩ : ByteArray)) ++ t144)] (fun _ => True) (fun _ => False) rfl rfl ?aP (fun _ hk => hk.elim) ?aF ?aO ?aB ?aS ?aL ?_); (case aP => exact rfl); (case aB => exact (bp HB.out)); (case aF => exact (fun _ _ => trivial)); (case aO => exact (kr HO_3.out)); (case aS => exact (below_size (bp HB.out))); (case aL => have := LMc12.out; omega); intro v146 w18 ho hb hg hat; rw [← Ny145.out] at ho; (have n0_ := Aside0.mk (blk_grown (g := gb143) (o := .cells #[.string ((rd_T33 l0 x11_1).f0), .int .i64 ((rd_T33 l0 x11_1).f1)] 33 (0, 0)) (kb BK143.out) hg (Kd.R_ne HO_3.out BK143.out (by decide)))); have n1_ := Aside0.mk (hb); have n2_ := Aside0.mk (ho); clear BK143; clear HB; clear HO_3; have BK143 := n0_; have HB := n1_; have HO147 := n2_; clear n0_ n1_ n2_; clear ho hb hg hat; refine hK.out _ _ (zc2 BK143) (fun hHeld => ?_); clear hK K; refine norm_ (a' := ?_) ?_ ?_; rotate_left
          ·show Act.put _ (some 24) _ = _; simp only [Act.put, List.setIfInBounds_toArray, List.set_cons_zero, List.set_cons_succ, i64_w, i32_w]; rfl
          refine zp 10 3 q7m11 HT_.out ?_; (refine done_ (done_of HT_.out (by kernel_rfl)) ?_); (try go_wp2); go_roundg k1; (case measure => have := HK1.out; omega); case rel => exact ⟨(y145), (wrap64 (x11_1 + 1)), zfe, H', ⟨by have := HK1.out; omega⟩, ⟨by (with_reducible repeat (first | apply Kd.R_alloc | apply Kd.R_drewN | apply Kd.R_drew)); exact HO147.out⟩, ⟨bp HB.out⟩⟩
         ·rw [if_neg c12] at H; exact absurd H (by simp)
        ·rw [if_neg c11] at H; exact absurd H (by simp)
       ·rw [if_neg c9] at H; exact absurd H (by simp)
      ·rw [if_neg c8] at H; exact absurd H (by simp)
     ·rw [if_neg c7] at H; exact absurd H (by simp)
    ·rw [if_neg c6] at H; have c6b0 : decide (x11_1 < (l0.length : Int)) = false := decide_eq_false c6; clear c6; (first | rw [c6b0] | (simp only [i64_w, i32_w]; rw [c6b0]) | skip); obtain ⟨t148, A19, H⟩ := zbd H; (try dsimp only at H); obtain rfl := Option.some.inj H; obtain ⟨Ao20, co20, eo20⟩ := Kd.R_slice HO_3.out; subst eo20; (go_wp2_with (first | ((with_reducible refine gate_callee (f := 15) rfl ?_); refine goesL_ (some 27) rfl rfl Tryd.func15 (by kernel_rfl) rfl #[.slice Ao20 x3_1.length co20, .string (⟨#[32]⟩ : ByteArray)] rfl (by (try simp only [List.map_toArray, List.map_cons, List.map_nil]); first | done | rfl | (simp only [List.length_drop, List.length_take]; rfl)) ?_; (with_reducible refine (strings_Join.calls _ _ x3_1 (⟨#[32]⟩ : ByteArray) t148 _ ?side1 ?side2 A19.out).mono ?_); (case side1 => repeat (first | exact (Kd.R_reads' HO_3.out).2.2 | (with_reducible refine Kd.C_alloc ?_ _) | (with_reducible refine Kd.C_drewN ?_ _) | (with_reducible refine Kd.C_drew ?_))); (case side2 => exact (Kd.R_reads' HO_3.out).2.1); rintro e w21 ⟨rfl, hb⟩; refine ⟨_, rfl, ?_⟩; have n_ := zn2 (Aside0.mk (Kd.R_below (kr HO_3.out) hb)) (an0 HB hb); clear HO_3 HB; obtain ⟨HO_3, HB⟩ := n_; (try clear hb); (try clear hb2); (try clear hk); (try clear hi); (try clear hgw)))); go_ret; exact ⟨fe, bp HB.out⟩
 ·replace c5 := Bool.eq_false_iff.mpr c5; subst c5; rw [if_neg zft] at H; obtain rfl := Option.some.inj H; go_wp2; go_ret; exact ⟨fe, bp HB.out⟩
/-! ### laws_eqPair: function 16 -/
def laws_eqPair.f (a0_0 : ByteArray) (a0_1 : Int) (a1_0 : ByteArray) (a1_1 : Int) : Option (Bool) := if a0_0.toList = a1_0.toList then (if a0_1 = a1_1 then (some true) else (some false)) else (some false)
set_option maxHeartbeats 8000000 in
set_option maxRecDepth 100000 in
theorem laws_eqPair.calls (a0_0 : ByteArray) (a0_1 : Int) (a1_0 : ByteArray) (a1_1 : Int) (r : Bool) (w : World) (h : laws_eqPair.f a0_0 a0_1 a1_0 a1_1 = some r) :
    Calls Tryd.prog 16 #[.agg #[.string a0_0, .int .i64 a0_1], .agg #[.string a1_0, .int .i64 a1_1]] w fun e w' => e = .returned (.bool r) ∧ Below w.heap.size w w' := by
 have hu33 := Tryd.underlying33; have HB := Aside0.mk (Below.refl w.heap.size w); unfold laws_eqPair.f at h; have H := h; clear h; have HC3 := Aside0.mk H; clear H; go_enter Tryd.func16, Tryd.ntmps16; (go_upto_if 9 with (first | ((with_reducible refine gate_dst (N := 2) rfl ?_); refine bxe (N := 2) (cs := #[.string a0_0, .int .i64 a0_1]) (t := 33) ?_; intro gb149 hg w4 hbox hb; have BK149 := Aside0.mk (hbox); have GW149 := an2 HB hg; have GE149 := an2 HB hg; replace HB := an0 HB hb; clear hb hbox hg) | ((with_reducible refine gate_dst (N := 3) rfl ?_); refine bxe (N := 3) (cs := #[.string a1_0, .int .i64 a1_1]) (t := 33) ?_; intro gb150 hg w5 hbox hb; have BK150 := Aside0.mk (hbox); have GW150 := an2 HB hg; have GE150 := an2 HB hg; have NB149_150 := an3 BK149 hg; have NB150_149 := an4 BK149 hg; replace BK149 := an1 BK149 hb; replace HB := an0 HB hb; clear hb hbox hg; have hnb6 := NB149_150.out; have hnc6 := NB150_149.out; obtain ⟨z7a, z7b, f7a, f7b⟩ := cl2 BK149; obtain ⟨z8a, z8b, f8a, f8b⟩ := cl2 BK150))); (try simp only [Act.put, List.setIfInBounds_toArray, List.set_cons_zero, List.set_cons_succ]); have H := HC3.out; clear HC3; by_cases c9 : a0_0.toList = a1_0.toList
 ·rw [if_pos c9] at H; have c9b0 : (a0_0.toList == a1_0.toList) = true := beq_iff_eq.mpr c9; have c9b1 : (a0_0.toList != a1_0.toList) = false := bne_eq_false_iff_eq.mpr c9; clear c9; (first | rw [c9b0] | (simp only [i64_w, i32_w]; rw [c9b0]) | skip); by_cases c10 : a0_1 = a1_1
  ·rw [if_pos c10] at H; have c10b0 : (a0_1 == a1_1) = true := beq_iff_eq.mpr c10; have c10b1 : (a0_1 != a1_1) = false := bne_eq_false_iff_eq.mpr c10; clear c10; obtain rfl := Option.some.inj H; have hnb11 := NB149_150.out; have hnc11 := NB150_149.out; obtain ⟨z12a, z12b, f12a, f12b⟩ := cl2 BK149; obtain ⟨z13a, z13b, f13a, f13b⟩ := cl2 BK150; go_wp2; go_ret; exact ⟨fe, bp HB.out⟩
  ·rw [if_neg c10] at H; have c10b0 : (a0_1 == a1_1) = false := beq_eq_false_iff_ne.mpr c10; have c10b1 : (a0_1 != a1_1) = true := bne_iff_ne.mpr c10; obtain rfl := Option.some.inj H; have hnb14 := NB149_150.out; have hnc14 := NB150_149.out; obtain ⟨z15a, z15b, f15a, f15b⟩ := cl2 BK149; obtain ⟨z16a, z16b, f16a, f16b⟩ := cl2 BK150; go_wp2; go_ret; exact ⟨fe, bp HB.out⟩
 ·rw [if_neg c9] at H; have c9b0 : (a0_0.toList == a1_0.toList) = false := beq_eq_false_iff_ne.mpr c9; have c9b1 : (a0_0.toList != a1_0.toList) = true := bne_iff_ne.mpr c9; (first | rw [c9b0] | (simp only [i64_w, i32_w]; rw [c9b0]) | skip); obtain rfl := Option.some.inj H; go_wp2; go_ret; exact ⟨fe, bp HB.out⟩
/-! ### laws_eqPairS: function 8 -/
def laws_eqPairS.l0 : Nat → List (S33) → List (S33) → Int → Option (Bool)
  | 0, _, _, _ => none
  | k + 1, a, b, c => if c < (a.length : Int) then (if 0 ≤ c then (if c < (b.length : Int) then ((laws_eqPair.f ((rd_T33 a c).f0) ((rd_T33 a c).f1) ((rd_T33 b c).f0) ((rd_T33 b c).f1)).bind fun t153 => (if t153 = true then (laws_eqPairS.l0 k a b (wrap64 (c + 1))) else (some false))) else (none)) else (none)) else (some true)
def laws_eqPairS.f (k : Nat) (l0 : List (S33)) (l1 : List (S33)) : Option (Bool) := if (l0.length : Int) = (l1.length : Int) then (laws_eqPairS.l0 k l0 l1 0) else (some false)
theorem laws_eqPairS.mono_l : ∀ k, (∀ y0 y1 y2, LeO (laws_eqPairS.l0 k y0 y1 y2) (laws_eqPairS.l0 (k + 1) y0 y1 y2))
  | 0 => fun _ _ _ r h => by simp [laws_eqPairS.l0] at h
  | k + 1 => by
    have ih0 := laws_eqPairS.mono_l k
    · intro y0 y1 y2
      unfold laws_eqPairS.l0
      repeat' with_reducible first | exact ih0 _ _ _ | exact LeO.refl _ | exact LeO.none _ | refine LeO.ite ?_ ?_ | refine LeO.bind ?_ (fun _ => ?_)
theorem laws_eqPairS.mono : ∀ a0 a1 k, LeO (laws_eqPairS.f k a0 a1) (laws_eqPairS.f (k + 1) a0 a1) := by
 intro a0 a1 k; have ih0 := laws_eqPairS.mono_l k; unfold laws_eqPairS.f; repeat' with_reducible first | exact ih0 _ _ _ | exact LeO.refl _ | exact LeO.none _ | refine LeO.ite ?_ ?_ | refine LeO.bind ?_ (fun _ => ?_)
def laws_eqPairS.T6 : Bool × List (List Nat × List Nat) := (true, [([], []), ([], []), ([0, 1], [0, 1]), ([2], [2]), ([], []), ([], []), ([4, 5], [4, 5]), ([6], [6]), ([3, 7], [3, 7]), ([8], [8])])
def laws_eqPairS.B6 : List Nat := [0, 0, 3, 7, 0, 0, 48, 112, 255, 511]
theorem laws_eqPairS.tab6 : rtab .any (opsOf Tryd.f8 6) = laws_eqPairS.T6 := by kernel_rfl
theorem laws_eqPairS.bits6 : waitsOk laws_eqPairS.T6.2 laws_eqPairS.B6 = true := by kernel_rfl
def q8m0 : Array Bool := Array.replicate 10 false
def q8m1 : Array Bool := mkB 10 1
def q8m2 : Array Bool := mkB 10 3
def q8m3 : Array Bool := mkB 10 7
def q8m4 : Array Bool := mkB 10 23
def q8m5 : Array Bool := mkB 10 55
def q8m6 : Array Bool := mkB 10 119
def q8m7 : Array Bool := mkB 10 127
def q8m8 : Array Bool := mkB 10 255
def q8m9 : Array Bool := mkB 10 511
def q8m10 : Array Bool := mkB 10 1023
set_option maxHeartbeats 8000000 in
set_option maxRecDepth 100000 in
theorem laws_eqPairS.calls (k : Nat) (A0 : Option Addr) (c0 : Nat) (l0 : List (S33)) (A1 : Option Addr) (c1 : Nat) (l1 : List (S33)) (r : Bool) (w : World) (hr0 : Kd.C k33 w A0 l0.length l0) (hc0 : l0.length ≤ c0) (hr1 : Kd.C k33 w A1 l1.length l1) (hc1 : l1.length ≤ c1) (h : laws_eqPairS.f k l0 l1 = some r) :
    Calls Tryd.prog 8 #[.slice A0 l0.length c0, .slice A1 l1.length c1] w fun e w' => e = .returned (.bool r) ∧ Below w.heap.size w w' := by
 have hu33 := Tryd.underlying33; have HR0 := Aside0.mk hr0; have HC0 := Aside0.mk hc0; clear hr0 hc0; have HR1 := Aside0.mk hr1; have HC1 := Aside0.mk hc1; clear hr1 hc1; have HB := Aside0.mk (Below.refl w.heap.size w); unfold laws_eqPairS.f at h; have H := h; clear h; by_cases c3 : (l0.length : Int) = (l1.length : Int)
 ·rw [if_pos c3] at H; have c3b0 : ((l0.length : Int) == (l1.length : Int)) = true := beq_iff_eq.mpr c3; have c3b1 : ((l0.length : Int) != (l1.length : Int)) = false := bne_eq_false_iff_eq.mpr c3; (have c3b2 : (l0.length == l1.length) = true := by first | simpa using c3 | (simp at c3 ⊢; omega)); clear c3; have H' := Aside0.mk H; clear H; go_enter Tryd.func8, Tryd.ntmps8; go_wp2; go_loopg [5] k (fun kq v5 w' => ∃ (x5_1 : Int), v5 = .int .i64 x5_1 ∧ Aside0 (laws_eqPairS.l0 kq l0 l1 x5_1 = some r) ∧ Aside0 (kq ≤ k) ∧ Aside0 (Below w.heap.size w w')); case atStart => exact ⟨(0), zfe, H', ⟨Nat.le_refl _⟩, ⟨bp HB.out⟩⟩
  case round =>
   clear H'; (try clear c1); (try clear c3); (try clear c3b0); (try clear c3b1); (try clear c3b2); obtain ⟨x5_1, rfl, HA, HK1, HB⟩ := hrel
   cases gk with
   | zero => exact absurd HA.out (by simp [laws_eqPairS.l0])
   | succ k1 =>
    have H := HA.out; clear HA; simp only [laws_eqPairS.l0] at H; by_cases c4 : x5_1 < (l0.length : Int)
    ·rw [if_pos c4] at H; have c4b0 : decide (x5_1 < (l0.length : Int)) = true := decide_eq_true c4; clear c4; by_cases c5 : 0 ≤ x5_1
     ·rw [if_pos c5] at H; have c5b0 : decide (0 ≤ x5_1) = true := decide_eq_true c5; clear c5; by_cases c6 : x5_1 < (l1.length : Int)
      ·rw [if_pos c6] at H; have c6b0 : decide (x5_1 < (l1.length : Int)) = true := decide_eq_true c6; clear c6; obtain ⟨t153, A7, H⟩ := zbd H; (try dsimp only at H); have HC8 := Aside0.mk H; clear H; (try go_wp2); have n0_ := Aside0.mk (below_drew1 HB.out); clear HB; have HB := n0_; clear n0_; have p151 : 0 ≤ (x5_1 : Int) := zda; have q151 : x5_1 < (l0.length : Int) := zda; obtain ⟨ad151, e151, hx151_0, hx151_1⟩ := at_T33 HR0.out x5_1 p151 q151; have hw151_1 := hx151_1; have hw151_0 := hx151_0; cases e151; replace hx151_0 := hcx HB hx151_0; replace hx151_1 := hcx HB hx151_1; replace p151 := eq_true p151; replace q151 := eq_true q151; have p152 : 0 ≤ (x5_1 : Int) := zda; have q152 : x5_1 < (l1.length : Int) := zda; obtain ⟨ad152, e152, hx152_0, hx152_1⟩ := at_T33 HR1.out x5_1 p152 q152; have hw152_1 := hx152_1; have hw152_0 := hx152_0; cases e152; replace hx152_0 := hcx HB hx152_0; replace hx152_1 := hcx HB hx152_1; replace p152 := eq_true p152; replace q152 := eq_true q152; (refine start_ (n := 10) (S := fun w' => w'.cell? (ad151.add ((x5_1).toNat * 2)) = some (.string ((rd_T33 l0 x5_1).f0)) ∧ w'.cell? ⟨(ad151.add ((x5_1).toNat * 2)).block, (ad151.add ((x5_1).toNat * 2)).off + 1, none⟩ = some (.int .i64 ((rd_T33 l0 x5_1).f1)) ∧ w'.cell? (ad152.add ((x5_1).toNat * 2)) = some (.string ((rd_T33 l1 x5_1).f0)) ∧ w'.cell? ⟨(ad152.add ((x5_1).toNat * 2)).block, (ad152.add ((x5_1).toNat * 2)).off + 1, none⟩ = some (.int .i64 ((rd_T33 l1 x5_1).f1))) (ds := []) q8m0 (by kernel_rfl) rfl rfl ⟨(hcx HB hw151_0), (hcx HB hw151_1), (hcx HB hw152_0), (hcx HB hw152_1)⟩ (fun hHeld => ?_); refine with_tabW laws_eqPairS.tab6 laws_eqPairS.bits6 (fun HT_ HW_ => ?_)); generalize wr.drew = w9 at HB hx151_0 hx151_1 hx152_0 hx152_1 hHeld ⊢; refine zp 0 17 q8m1 HT_.out ?_; refine zp 1 18 q8m2 HT_.out ?_; refine zp 2 19 q8m3 HT_.out ?_; refine zp 4 21 q8m4 HT_.out ?_; refine zp 5 22 q8m5 HT_.out ?_; refine zp 6 23 q8m6 HT_.out ?_; refine tak (i := 3) (N := some 20) q8m7 rfl rfl HT_.out HW_.out hHeld ?_; refine tak (i := 7) (N := some 24) q8m8 rfl rfl HT_.out HW_.out hHeld ?_; refine ones (i := 8) (N := some 25) q8m9 rfl rfl HT_.out (fun K hK => ?_); refine gos Tryd.func16 #[.agg #[.string ((rd_T33 l0 x5_1).f0), .int .i64 ((rd_T33 l0 x5_1).f1)], .agg #[.string ((rd_T33 l1 x5_1).f0), .int .i64 ((rd_T33 l1 x5_1).f1)]] rfl ?_; (with_reducible refine (laws_eqPair.calls ((rd_T33 l0 x5_1).f0) ((rd_T33 l0 x5_1).f1) ((rd_T33 l1 x5_1).f0) ((rd_T33 l1 x5_1).f1) t153 _ A7.out).mono ?_); rintro e w10 ⟨rfl, hb⟩; refine ⟨_, rfl, ?_⟩; have n0_ := an0 HB hb; clear HB; have HB := n0_; clear n0_; (try clear hb); (try clear hb2); (try clear hk); (try clear hi); (try clear hgw); refine hK.out _ _ ⟨(hcx HB hw151_0), (hcx HB hw151_1), (hcx HB hw152_0), (hcx HB hw152_1)⟩ (fun hHeld => ?_); clear hK K; refine norm_ (a' := ?_) ?_ ?_; rotate_left
       ·show Act.put _ (some 25) _ = _; simp only [Act.put, List.setIfInBounds_toArray, List.set_cons_zero, List.set_cons_succ, i64_w, i32_w]; rfl
       refine zp 9 26 q8m10 HT_.out ?_; (refine done_ (done_of HT_.out (by kernel_rfl)) ?_); go_upto_if 26 with (fail); have H := HC8.out; clear HC8; by_cases c11 : t153 = true
       ·subst c11; rw [if_pos rfl] at H; have H' := Aside0.mk H; clear H; go_wp2; go_roundg k1; (case measure => have := HK1.out; omega); case rel => exact ⟨(wrap64 (x5_1 + 1)), zfe, H', ⟨by have := HK1.out; omega⟩, ⟨bp HB.out⟩⟩
       ·replace c11 := Bool.eq_false_iff.mpr c11; subst c11; rw [if_neg zft] at H; obtain rfl := Option.some.inj H; go_wp2; go_ret; exact ⟨fe, bp HB.out⟩
      ·rw [if_neg c6] at H; exact absurd H (by simp)
     ·rw [if_neg c5] at H; exact absurd H (by simp)
    ·rw [if_neg c4] at H; have c4b0 : decide (x5_1 < (l0.length : Int)) = false := decide_eq_false c4; clear c4; obtain rfl := Option.some.inj H; go_wp2; go_ret; exact ⟨fe, bp HB.out⟩
 ·rw [if_neg c3] at H; have c3b0 : ((l0.length : Int) == (l1.length : Int)) = false := beq_eq_false_iff_ne.mpr c3; have c3b1 : ((l0.length : Int) != (l1.length : Int)) = true := bne_iff_ne.mpr c3; (have c3b2 : (l0.length == l1.length) = false := by first | simpa using c3 | (simp at c3 ⊢; omega)); obtain rfl := Option.some.inj H; go_enter Tryd.func8, Tryd.ntmps8; go_wp2; go_ret; exact ⟨fe, bp HB.out⟩
end Go.Proofs.YtfeeifefmenlmaaDoor.PFnExactPairsText
