-- Written by a program of this session, in the manner of the kit's print (wip/pp.py): functions and their contracts.
import Derived.Test.YtfeeifefmenlmaaPFnPartDigestsx0
import Derived.Test.YtfeeifefmenlmaaPFnPartDigestsx2
import Derived.Test.YtfeeifefmenlmaaPFnPartDigestsx4
import Derived.Test.YtfeeifefmenlmaaPFnPartDigestsx5
import Derived.Test.YtfeeifefmenlmaaPFnPartDigestsx6
namespace Go.Proofs.Ytfeeifefmenlmaa.PFnPartDigests
open Go.RowKit Go.Proofs.YtfeeifefmenlmaaW.PrintWords Go.Proofs.YtfeeifefmenlmaaW.PrintLast Go.Proofs.YtfeeifefmenlmaaW.PrintMore
attribute [local go_sem] binOp_leq_str binOp_gtr_str binOp_geq_str max2_int min2_int max_two min_two max_three min_three max_four min_four   -- for this text's walks alone
set_option linter.unusedVariables false
set_option linter.unusedSimpArgs false

/-! ### spec_PartitionOf: function 138 -/
def spec_PartitionOf.l0 : Nat → List ByteArray → List (S83) → Int → Option ((List (S83)) × Bool)
  | 0, _, _, _ => none
  | k + 1, x0, x4, x5 => if x5 < (x0.length : Int) then (if (x4.length : Int) ≤ 6 then (if 0 ≤ x5 then (if 0 ≤ (wrap64 ((x4.length : Int) - 1)) then (if (wrap64 ((x4.length : Int) - 1)) < (x4.length : Int) then ((some (x4.set ((wrap64 ((x4.length : Int) - 1)) : Int).toNat (⟨(rd_T83 x4 (wrap64 ((x4.length : Int) - 1))).f0, rdOf ByteArray.empty x0 x5⟩ : S83) : List (S83))).bind fun y274 => (if y274.length < 4398046511104 then (spec_PartitionOf.l0 k x0 (y274 ++ [(⟨rdOf ByteArray.empty x0 x5, (⟨#[]⟩ : ByteArray)⟩ : S83)]) (wrap64 (x5 + 1))) else (none))) else (none)) else (none)) else (none)) else ((spec_PartitionValid.f k x4).bind fun t279 => (if t279 = true then (some (x4, true)) else (some ((([] : List (S83))), false))))) else ((spec_PartitionValid.f k x4).bind fun t283 => (if t283 = true then (some (x4, true)) else (some ((([] : List (S83))), false))))
def spec_PartitionOf.f (k : Nat) (l0 : List ByteArray) : Option ((List (S83)) × Bool) := spec_PartitionOf.l0 k l0 (([(⟨(⟨#[]⟩ : ByteArray), (⟨#[]⟩ : ByteArray)⟩ : S83)] : List (S83))) 0
theorem spec_PartitionOf.mono_l : ∀ k, (∀ y0 y1 y2, LeO (spec_PartitionOf.l0 k y0 y1 y2) (spec_PartitionOf.l0 (k + 1) y0 y1 y2))
  | 0 => fun _ _ _ r h => by simp [spec_PartitionOf.l0] at h
  | k + 1 => by
    have ih0 := spec_PartitionOf.mono_l k
    · intro y0 y1 y2
      unfold spec_PartitionOf.l0
      repeat' first
      | (with_reducible exact ih0 _ _ _)
      | (with_reducible exact spec_PartitionValid.mono _ _)
      | (with_reducible exact LeO.refl _)
      | (with_reducible exact LeO.none _)
      | (with_reducible refine LeO.ite ?_ ?_)
      | (with_reducible refine LeO.bind ?_ (fun _ => ?_))
      | exact ih0 _ _ _
      | exact spec_PartitionValid.mono _ _
      | exact LeO.none _
      | refine LeO.ite ?_ ?_
      | refine LeO.bind ?_ (fun _ => ?_)
theorem spec_PartitionOf.mono : ∀ a0 k, LeO (spec_PartitionOf.f k a0) (spec_PartitionOf.f (k + 1) a0) := by
  intro a0 k
  have ih0 := spec_PartitionOf.mono_l k
  unfold spec_PartitionOf.f
  repeat' first
      | (with_reducible exact ih0 _ _ _)
      | (with_reducible exact spec_PartitionValid.mono _ _)
      | (with_reducible exact LeO.refl _)
      | (with_reducible exact LeO.none _)
      | (with_reducible refine LeO.ite ?_ ?_)
      | (with_reducible refine LeO.bind ?_ (fun _ => ?_))
      | exact ih0 _ _ _
      | exact spec_PartitionValid.mono _ _
      | exact LeO.none _
      | refine LeO.ite ?_ ?_
      | refine LeO.bind ?_ (fun _ => ?_)
theorem spec_PartitionOf.s0 {P0 Q : Prop} (B0 : P0) (h : P0 → Q := by (intro b0_; repeat (first | exact (Kd.R_reads' b0_).2.2 | (with_reducible refine Kd.C_alloc ?_ _) | (with_reducible refine Kd.C_drewN ?_ _) | (with_reducible refine Kd.C_drew ?_)))) : Q := h B0
set_option maxHeartbeats 8000000 in
set_option maxRecDepth 100000 in
theorem spec_PartitionOf.calls (k : Nat) (A0 : Option Addr) (c0 : Nat) (l0 : List ByteArray) (r1 : List (S83)) (r2 : Bool) (w : World) (hr0 : Kd.C Kd.string w A0 l0.length l0) (hc0 : l0.length ≤ c0) (h : spec_PartitionOf.f k l0 = some (r1, r2)) :
    Calls Try.prog 138 #[.slice A0 l0.length c0] w fun e w' => ∃ v0_ : Value, e = .returned (.tuple #[v0_, .bool r2]) ∧ Kd.R k83 83 w' w.heap.size (fun _ => True) v0_ r1 ∧ Below w.heap.size w w' := by
  have hu83 := Try.underlying83
  have HR0 := Aside0.mk hr0
  have HC0 := Aside0.mk hc0
  clear hr0 hc0
  have HB := Aside0.mk (Below.refl w.heap.size w)
  have H : (spec_PartitionOf.l0 k l0 (([(⟨(⟨#[]⟩ : ByteArray), (⟨#[]⟩ : ByteArray)⟩ : S83)] : List (S83))) 0) = some (r1, r2) := h
  clear h
  obtain ⟨y270, hy270⟩ : ∃ y_ : List (S83), y_ = (([(⟨(⟨#[]⟩ : ByteArray), (⟨#[]⟩ : ByteArray)⟩ : S83)] : List (S83))) := ⟨_, rfl⟩
  replace H : (spec_PartitionOf.l0 k l0 y270 0) = some (r1, r2) := by first | (rw [hy270]; with_reducible exact H) | (have H2_ := (Option.bind_some _ _).symm.trans H; rw [hy270]; with_reducible exact H2_) | (have H2_ := (Option.bind_some _ _).symm.trans H; with_reducible exact H2_) | with_reducible exact H | (rw [hy270]; exact H) | exact H
  have Ny270 := Aside0.mk hy270
  clear hy270
  have H' := Aside0.mk H
  clear H
  go_enter Try.func138, Try.ntmps138
  go_wp2_with (first | ((with_reducible refine gate_dst (N := 7) rfl ?_); (try (refine gate_guard (by rfl) ?_; dsimp only)); refine Kd.R_lit k83 _ 83 ?hg (N := 7) ?hd (xs := ([(⟨(⟨#[]⟩ : ByteArray), (⟨#[]⟩ : ByteArray)⟩ : S83)] : List (S83))) (inner := [.string (⟨#[]⟩ : ByteArray), .string (⟨#[]⟩ : ByteArray)]) (ok := fun _ => True) (okp := fun _ => True) ?hr ?hp (fun _ hk => hk) trivial (Below.refl _ _) (Nat.le_refl _) (by simp) ?_; (case hd => rfl); (case hg => rfl); (case hr => first | (go_simp; done) | (go_simp; rfl)); (case hp => exact (Reps.c2 (show Kd.M k83 _ _ _ (⟨(⟨#[]⟩ : ByteArray), (⟨#[]⟩ : ByteArray)⟩ : S83) [.string (⟨#[]⟩ : ByteArray), .string (⟨#[]⟩ : ByteArray)] from (k83_mkM _ _ _ (⟨(⟨#[]⟩ : ByteArray), (⟨#[]⟩ : ByteArray)⟩ : S83) )) (Reps.none _ _))); intro v271 w2 ho3 hb hg_ hnew_; clear hg_ hnew_; (first | rw [← Ny270.out] at ho3 | (simp only [Int.reduceToNat] at ho3; rw [← Ny270.out] at ho3)); have n0_ := Aside0.mk (Kd.R_lower ho3 (below_size (bp HB.out))); have n1_ := an0 HB hb; clear HB; have HO272 := n0_; have HB := n1_; clear n0_ n1_; clear hb ho3))
  go_loopg [4, 5] k (fun kq v4 v5 w' => ∃ (x4_1 : List (S83)) (x5_1 : Int), v5 = .int .i64 x5_1 ∧ Aside0 (spec_PartitionOf.l0 kq l0 x4_1 x5_1 = some (r1, r2)) ∧ Aside0 (kq ≤ k) ∧ Aside0 (Kd.R k83 83 w' w.heap.size (fun _ => True) v4 x4_1) ∧ Aside0 (Below w.heap.size w w'))
  case atStart => exact ⟨(y270), (0), (by first | rfl | (simp; done) | (simp [*]; done) | (simp [bne_nil_, beq_nil_]; done)), H', ⟨Nat.le_refl _⟩, ⟨by (with_reducible repeat (first | apply Kd.R_alloc | apply Kd.R_drewN | apply Kd.R_drew)); exact HO272.out⟩, ⟨bp HB.out⟩⟩
  case round =>
    clear H'
    try clear c1
    try clear c2
    try clear p2
    obtain ⟨x4_1, x5_1, rfl, HA, HK1, HO_4, HB⟩ := hrel
    cases gk with
    | zero => exact absurd HA.out (by simp [spec_PartitionOf.l0])
    | succ k1 =>
      have H := HA.out
      clear HA
      simp only [spec_PartitionOf.l0] at H
      by_cases c4 : x5_1 < (l0.length : Int)
      · rw [if_pos c4] at H
        have c4b0 : decide (x5_1 < (l0.length : Int)) = true := decide_eq_true c4
        clear c4
        by_cases c5 : (x4_1.length : Int) ≤ 6
        · rw [if_pos c5] at H
          have c5b0 : decide ((x4_1.length : Int) ≤ 6) = true := decide_eq_true c5
          have c5b1 : decide (x4_1.length ≤ 6) = true := decide_eq_true (by omega)
          clear c5
          by_cases c6 : 0 ≤ x5_1
          · rw [if_pos c6] at H
            have c6b0 : decide (0 ≤ x5_1) = true := decide_eq_true c6
            clear c6
            obtain ⟨ji7, hji7⟩ : ∃ j_ : Int, (wrap64 ((x4_1.length : Int) - 1)) = j_ := ⟨_, rfl⟩
            replace H : (if 0 ≤ (ji7) then (if (ji7) < (x4_1.length : Int) then ((some (x4_1.set ((ji7) : Int).toNat (⟨(rd_T83 x4_1 (ji7)).f0, rdOf ByteArray.empty l0 x5_1⟩ : S83) : List (S83))).bind fun y274 => (if y274.length < 4398046511104 then (spec_PartitionOf.l0 k1 l0 (y274 ++ [(⟨rdOf ByteArray.empty l0 x5_1, (⟨#[]⟩ : ByteArray)⟩ : S83)]) (wrap64 (x5_1 + 1))) else (none))) else (none)) else (none)) = some (r1, r2) := by first | (rw [hji7] at H; exact H) | (simp only [hji7] at H ⊢; exact H)
            have hji7w : (IntKind.i64.wrap ((x4_1.length : Int) - 1)) = ji7 := (i64_w _).trans hji7
            by_cases c8 : 0 ≤ (ji7)
            · rw [if_pos c8] at H
              have c8b0 : decide (0 ≤ (ji7)) = true := decide_eq_true c8
              clear c8
              by_cases c9 : (ji7) < (x4_1.length : Int)
              · rw [if_pos c9] at H
                have c9b0 : decide ((ji7) < (x4_1.length : Int)) = true := decide_eq_true c9
                clear c9
                obtain ⟨y274, hy274⟩ : ∃ y_ : List (S83), y_ = (x4_1.set ((ji7) : Int).toNat (⟨(rd_T83 x4_1 (ji7)).f0, rdOf ByteArray.empty l0 x5_1⟩ : S83)) := ⟨_, rfl⟩
                replace H : (if y274.length < 4398046511104 then (spec_PartitionOf.l0 k1 l0 (y274 ++ [(⟨rdOf ByteArray.empty l0 x5_1, (⟨#[]⟩ : ByteArray)⟩ : S83)]) (wrap64 (x5_1 + 1))) else (none)) = some (r1, r2) := by first | (rw [hy274]; with_reducible exact H) | (have H2_ := (Option.bind_some _ _).symm.trans H; rw [hy274]; with_reducible exact H2_) | (have H2_ := (Option.bind_some _ _).symm.trans H; with_reducible exact H2_) | with_reducible exact H | (rw [hy274]; exact H) | exact H
                have Ny274 := Aside0.mk hy274
                clear hy274
                by_cases c11 : y274.length < 4398046511104
                · rw [if_pos c11] at H
                  have LMc11 := Aside0.mk c11
                  clear c11
                  obtain ⟨y276, hy276⟩ : ∃ y_ : List (S83), y_ = (y274 ++ [(⟨rdOf ByteArray.empty l0 x5_1, (⟨#[]⟩ : ByteArray)⟩ : S83)]) := ⟨_, rfl⟩
                  replace H : (spec_PartitionOf.l0 k1 l0 y276 (wrap64 (x5_1 + 1))) = some (r1, r2) := by first | (rw [hy276]; with_reducible exact H) | (have H2_ := (Option.bind_some _ _).symm.trans H; rw [hy276]; with_reducible exact H2_) | (have H2_ := (Option.bind_some _ _).symm.trans H; with_reducible exact H2_) | with_reducible exact H | (rw [hy276]; exact H) | exact H
                  have Ny276 := Aside0.mk hy276
                  clear hy276
                  have H' := Aside0.mk H
                  clear H
                  obtain ⟨Ao12, co12, eo12⟩ := Kd.R_slice HO_4.out
                  subst eo12
                  have p273 : 0 ≤ (x5_1 : Int) := of_decide_eq_true (by first | (with_reducible assumption) | assumption)
                  have q273 : x5_1 < (l0.length : Int) := of_decide_eq_true (by first | (with_reducible assumption) | assumption)
                  obtain ⟨ad273, e273, hx273_0⟩ := Kd.at_string HR0.out x5_1 p273 q273
                  cases e273
                  replace hx273_0 := hcx HB hx273_0
                  replace p273 := eq_true p273
                  replace q273 := eq_true q273
                  have p10 : 0 ≤ ((ji7) : Int) := of_decide_eq_true (by first | (with_reducible assumption) | assumption)
                  have q10 : ((ji7) : Int) < ((x4_1.length : Int) : Int) := of_decide_eq_true (by first | (with_reducible assumption) | assumption)
                  obtain ⟨go10, co10, eo10, gb10, gl10, cl10, HG10⟩ := Kd.R_form HO_4.out (by omega)
                  (first | cases eo10 | (injection eo10 with ea_ en_ ec_; (first | subst ea_ | (injection ea_ with ea_; subst ea_)); subst ec_; clear en_))
                  have GB10 := Aside0.mk gb10
                  have GG10 := Aside0.mk HG10
                  clear gb10 gl10 HG10
                  obtain ⟨ce10, hcl10, hM10, hcc10, hfr10⟩ := Kd.R_elem HO_4.out z83 ((ji7) : Int) p10 q10
                  obtain rfl := k83_openM hM10
                  have hx10_0 : wr.cell? ⟨go10, ((ji7) : Int).toNat * 2, none⟩ = some (.string ((rd_T83 x4_1 (ji7)).f0)) := hcc10 0 _ rfl
                  have hx10_1 : wr.cell? ⟨go10, ((ji7) : Int).toNat * 2 + 1, none⟩ = some (.string ((rd_T83 x4_1 (ji7)).f1)) := hcc10 1 _ rfl
                  have hf10_0 : wr.frozen? ⟨go10, ((ji7) : Int).toNat * 2, none⟩ = false := hfr10 0
                  have hf10_1 : wr.frozen? ⟨go10, ((ji7) : Int).toNat * 2 + 1, none⟩ = false := hfr10 1
                  clear hcl10 hcc10 hfr10 hM10
                  replace p10 := eq_true p10
                  replace q10 := eq_true q10
                  have HX13 := Aside0.mk (show Kd.R k83 83 wr w.heap.size (fun _ => True) (.slice (some ⟨go10, 0, none⟩) x4_1.length co12) x4_1 from (kr HO_4.out))
                  obtain ⟨ce13, hcl13, hM13, hcc13, hfr13⟩ := Kd.R_elem HX13.out z83 ((ji7) : Int) (of_decide_eq_true (by first | (with_reducible assumption) | assumption)) (by have h_ : ((ji7) : Int) < ((x4_1.length : Int) : Int) := of_decide_eq_true (by first | (with_reducible assumption) | assumption); first | exact h_ | (have e_ := (Kd.R_reads' HO_4.out).1; omega) | simpa using h_)
                  obtain rfl := k83_openM hM13
                  have HP13 := Kd.R_seg HX13.out ((ji7) : Int) (of_decide_eq_true (by first | (with_reducible assumption) | assumption)) (by have h_ : ((ji7) : Int) < ((x4_1.length : Int) : Int) := of_decide_eq_true (by first | (with_reducible assumption) | assumption); first | exact h_ | (have e_ := (Kd.R_reads' HO_4.out).1; omega) | simpa using h_) (seg := [.string (rdOf ByteArray.empty l0 x5_1)]) (j := 1) hcl13 hcc13 (show 2 ≤ 2 from by decide) (x' := (⟨(rd_T83 x4_1 (ji7)).f0, rdOf ByteArray.empty l0 x5_1⟩ : S83)) (k83_mkM _ _ _ (⟨(rd_T83 x4_1 (ji7)).f0, rdOf ByteArray.empty l0 x5_1⟩ : S83) ) (fun _ hk => hk)
                  have hx13_1 := hcc13 1 _ rfl
                  (try simp only [show (k83).sz = 2 from rfl, Nat.mul_one, Nat.add_zero] at hx13_1)
                  have hf13_1 := hfr13 1
                  (try simp only [show (k83).sz = 2 from rfl, Nat.mul_one, Nat.add_zero] at hf13_1)
                  clear hcl13 hcc13 hfr13 hM13
                  go_wp2_with (first | ((with_reducible refine gate_store (t := 9) (p := 28) rfl ?_); refine store_event (t := 9) (p := 28) (v := ?vo_w14) (w1 := (wr.setCell ⟨go10, ((ji7) : Int).toNat * 2 + 1, none⟩ (.string (rdOf ByteArray.empty l0 x5_1)))) ?hg ?ho ?hn ?hr ?_; (case ho => rfl); (case hg => rfl); (case hn => rfl); (case hr => first | (go_simp; done) | (go_simp; rfl)); intro w14 hw; have hg : wr.grownBy w14 (some go10) := (by rw [hw]; exact HP13.2); have hp_ : Kd.R k83 83 w14 w.heap.size (fun _ => True) (.slice (some ⟨go10, 0, none⟩) x4_1.length co12) y274 := (by rw [hw, Ny274.out]; exact HP13.1); clear HP13; have n0_ := Aside0.mk (hp_); have n1_ := Aside0.mk ((by rw [hw]; exact below_set (HB.out) GB10.out : Below w.heap.size w w14)); clear HO_4; clear HB; have HO_4 := n0_; have HB := n1_; clear n0_ n1_; clear hg hw hp_; have p275 : 0 ≤ (x5_1 : Int) := of_decide_eq_true (by first | (with_reducible assumption) | assumption); have q275 : x5_1 < (l0.length : Int) := of_decide_eq_true (by first | (with_reducible assumption) | assumption); obtain ⟨ad275, e275, hx275_0⟩ := Kd.at_string HR0.out x5_1 p275 q275; obtain rfl : ad273 = ad275 := (by injection e275); replace hx275_0 := hcx HB hx275_0; replace p275 := eq_true p275; replace q275 := eq_true q275) | ((with_reducible refine gate_builtin (b := .append) (xs := #[.tmp 29, .tmp 35]) rfl ?_); (try (refine gate_guard (by rfl) ?_; dsimp only)); at_builtin; refine Kd.R_append k83 (w0 := w) w.heap.size rfl (.tmp 29) (.tmp 35) 57 83 (.agg #[(.string ⟨#[]⟩), (.string ⟨#[]⟩)]) 32 rfl Try.underlying57 info83 rfl (by decide) (by omega) (.slice (some ⟨go10, 0, none⟩) x4_1.length co12) y274 (⟨rdOf ByteArray.empty l0 x5_1, (⟨#[]⟩ : ByteArray)⟩ : S83) [.string (rdOf ByteArray.empty l0 x5_1), .string (⟨#[]⟩ : ByteArray)] (fun _ => True) (fun _ => False) rfl rfl ?aP (fun _ hk => hk.elim) ?aF ?aO ?aB ?aS ?aL ?_; (case aP => exact k83_mkM _ _ _ (⟨rdOf ByteArray.empty l0 x5_1, (⟨#[]⟩ : ByteArray)⟩ : S83)); (case aB => exact (bp HB.out)); (case aF => exact (fun _ _ => trivial)); (case aO => exact (kr HO_4.out)); (case aS => exact (below_size (bp HB.out))); (case aL => have := LMc11.out; omega); intro v277 w15 ho hb hg hat; rw [← Ny276.out] at ho; have n0_ := Aside0.mk (hb); have n1_ := Aside0.mk (ho); clear HB; clear HO_4; have HB := n0_; have HO278 := n1_; clear n0_ n1_; clear ho hb hg hat))
                  go_roundg k1
                  case measure => have := HK1.out; omega
                  case rel => exact ⟨(y276), (wrap64 (x5_1 + 1)), (by first | rfl | (simp; done) | (simp [*]; done) | (simp [bne_nil_, beq_nil_]; done)), H', ⟨by have := HK1.out; omega⟩, ⟨by (with_reducible repeat (first | apply Kd.R_alloc | apply Kd.R_drewN | apply Kd.R_drew)); exact HO278.out⟩, ⟨bp HB.out⟩⟩
                · rw [if_neg c11] at H
                  exact absurd H (by simp)
              · rw [if_neg c9] at H
                exact absurd H (by simp)
            · rw [if_neg c8] at H
              exact absurd H (by simp)
          · rw [if_neg c6] at H
            exact absurd H (by simp)
        · rw [if_neg c5] at H
          have c5b0 : decide ((x4_1.length : Int) ≤ 6) = false := decide_eq_false c5
          have c5b1 : decide (x4_1.length ≤ 6) = false := decide_eq_false (by omega)
          clear c5
          replace H := Option.bind_eq_some_iff.mp H
          obtain ⟨t279, A160, H⟩ := H
          replace H : (if t279 = true then (some (x4_1, true)) else (some ((([] : List (S83))), false))) = some (r1, r2) := H
          have A16 := Aside0.mk A160
          clear A160
          by_cases c17 : t279 = true
          · subst c17
            have H1 : (some (x4_1, true)) = some (r1, r2) := by rw [if_pos rfl] at H; exact H
            clear H
            have H := H1
            clear H1
            simp only [Option.some.injEq, Prod.mk.injEq] at H
            obtain ⟨rfl, rfl⟩ := H
            obtain ⟨Ao18, co18, eo18⟩ := Kd.R_slice HO_4.out
            subst eo18
            go_wp2_with (first | ((with_reducible refine gate_callee (f := 104) rfl ?_); refine gsl (some 38) rfl Try.func104 #[.slice Ao18 x4_1.length co18] rfl ?_; (with_reducible refine (spec_PartitionValid.calls k1 _ _ x4_1 true _ ?side1 ?side2 A16.out).mono ?_); (case side1 => exact spec_PartitionOf.s0 HO_4.out); (case side2 => exact (Kd.R_reads' HO_4.out).2.1); rintro e w19 ⟨rfl, hb⟩; refine ⟨_, rfl, ?_⟩; have n0_ := Aside0.mk (Kd.R_below (kr HO_4.out) hb); have n1_ := an0 HB hb; clear HO_4; clear HB; have HO_4 := n0_; have HB := n1_; clear n0_ n1_; (try clear hb); (try clear hb2); (try clear hk); (try clear hi)))
            go_ret2
            exact ⟨_, fe, by (with_reducible repeat (first | apply Kd.R_alloc | apply Kd.R_drewN | apply Kd.R_drew)); exact HO_4.out, bp HB.out⟩
          · replace c17 := Bool.eq_false_iff.mpr c17
            subst c17
            have H1 : (some ((([] : List (S83))), false)) = some (r1, r2) := by rw [if_neg (show ¬ (false = true) by decide)] at H; exact H
            clear H
            have H := H1
            clear H1
            obtain ⟨y280, hy280⟩ : ∃ y_ : List (S83), y_ = (([] : List (S83))) := ⟨_, rfl⟩
            replace H : (some (y280, false)) = some (r1, r2) := by first | (rw [hy280]; with_reducible exact H) | (have H2_ := (Option.bind_some _ _).symm.trans H; rw [hy280]; with_reducible exact H2_) | (have H2_ := (Option.bind_some _ _).symm.trans H; with_reducible exact H2_) | with_reducible exact H | (rw [hy280]; exact H) | exact H
            have Ny280 := Aside0.mk hy280
            clear hy280
            simp only [Option.some.injEq, Prod.mk.injEq] at H
            obtain ⟨rfl, rfl⟩ := H
            obtain ⟨Ao20, co20, eo20⟩ := Kd.R_slice HO_4.out
            subst eo20
            go_wp2_with (first | ((with_reducible refine gate_callee (f := 104) rfl ?_); refine gsl (some 38) rfl Try.func104 #[.slice Ao20 x4_1.length co20] rfl ?_; (with_reducible refine (spec_PartitionValid.calls k1 _ _ x4_1 false _ ?side1 ?side2 A16.out).mono ?_); (case side1 => exact spec_PartitionOf.s0 HO_4.out); (case side2 => exact (Kd.R_reads' HO_4.out).2.1); rintro e w21 ⟨rfl, hb⟩; refine ⟨_, rfl, ?_⟩; have n0_ := Aside0.mk (Kd.R_below (kr HO_4.out) hb); have n1_ := an0 HB hb; clear HO_4; clear HB; have HO_4 := n0_; have HB := n1_; clear n0_ n1_; (try clear hb); (try clear hb2); (try clear hk); (try clear hi)) | ((with_reducible refine gate_dst (N := 40) rfl ?_); (try (refine gate_guard (by rfl) ?_; dsimp only)); refine Kd.R_lit k83 _ 83 ?hg (N := 40) ?hd (xs := ([] : List (S83))) (inner := []) (ok := fun _ => True) (okp := fun _ => True) ?hr ?hp (fun _ hk => hk) trivial (Below.refl _ _) (Nat.le_refl _) (by simp) ?_; (case hd => rfl); (case hg => rfl); (case hr => first | (go_simp; done) | (go_simp; rfl)); (case hp => exact (Reps.none _ _)); intro v281 w22 ho23 hb hg_ hnew_; clear hg_ hnew_; (first | rw [← Ny280.out] at ho23 | (simp only [Int.reduceToNat] at ho23; rw [← Ny280.out] at ho23)); have n0_ := Aside0.mk (Kd.R_elder' (kr HO_4.out) (Kd.R_base ho23) hb); have n1_ := Aside0.mk (Kd.R_lower (Kd.R_new' ho23 (Kd.R_lt (kr HO_4.out))) (below_size (bp HB.out))); have n2_ := an0 HB hb; clear HO_4; clear HB; have HO_4 := n0_; have HO282 := n1_; have HB := n2_; clear n0_ n1_ n2_; clear hb ho23))
            go_ret2
            exact ⟨_, fe, by (with_reducible repeat (first | apply Kd.R_alloc | apply Kd.R_drewN | apply Kd.R_drew)); exact Kd.R_mono HO282.out (fun _ hk => trivial), bp HB.out⟩
      · rw [if_neg c4] at H
        have c4b0 : decide (x5_1 < (l0.length : Int)) = false := decide_eq_false c4
        clear c4
        replace H := Option.bind_eq_some_iff.mp H
        obtain ⟨t283, A240, H⟩ := H
        replace H : (if t283 = true then (some (x4_1, true)) else (some ((([] : List (S83))), false))) = some (r1, r2) := H
        have A24 := Aside0.mk A240
        clear A240
        by_cases c25 : t283 = true
        · subst c25
          have H1 : (some (x4_1, true)) = some (r1, r2) := by rw [if_pos rfl] at H; exact H
          clear H
          have H := H1
          clear H1
          simp only [Option.some.injEq, Prod.mk.injEq] at H
          obtain ⟨rfl, rfl⟩ := H
          obtain ⟨Ao26, co26, eo26⟩ := Kd.R_slice HO_4.out
          subst eo26
          go_wp2_with (first | ((with_reducible refine gate_callee (f := 104) rfl ?_); refine gsl (some 38) rfl Try.func104 #[.slice Ao26 x4_1.length co26] rfl ?_; (with_reducible refine (spec_PartitionValid.calls k1 _ _ x4_1 true _ ?side1 ?side2 A24.out).mono ?_); (case side1 => exact spec_PartitionOf.s0 HO_4.out); (case side2 => exact (Kd.R_reads' HO_4.out).2.1); rintro e w27 ⟨rfl, hb⟩; refine ⟨_, rfl, ?_⟩; have n0_ := Aside0.mk (Kd.R_below (kr HO_4.out) hb); have n1_ := an0 HB hb; clear HO_4; clear HB; have HO_4 := n0_; have HB := n1_; clear n0_ n1_; (try clear hb); (try clear hb2); (try clear hk); (try clear hi)))
          go_ret2
          exact ⟨_, fe, by (with_reducible repeat (first | apply Kd.R_alloc | apply Kd.R_drewN | apply Kd.R_drew)); exact HO_4.out, bp HB.out⟩
        · replace c25 := Bool.eq_false_iff.mpr c25
          subst c25
          have H1 : (some ((([] : List (S83))), false)) = some (r1, r2) := by rw [if_neg (show ¬ (false = true) by decide)] at H; exact H
          clear H
          have H := H1
          clear H1
          obtain ⟨y284, hy284⟩ : ∃ y_ : List (S83), y_ = (([] : List (S83))) := ⟨_, rfl⟩
          replace H : (some (y284, false)) = some (r1, r2) := by first | (rw [hy284]; with_reducible exact H) | (have H2_ := (Option.bind_some _ _).symm.trans H; rw [hy284]; with_reducible exact H2_) | (have H2_ := (Option.bind_some _ _).symm.trans H; with_reducible exact H2_) | with_reducible exact H | (rw [hy284]; exact H) | exact H
          have Ny284 := Aside0.mk hy284
          clear hy284
          simp only [Option.some.injEq, Prod.mk.injEq] at H
          obtain ⟨rfl, rfl⟩ := H
          obtain ⟨Ao28, co28, eo28⟩ := Kd.R_slice HO_4.out
          subst eo28
          go_wp2_with (first | ((with_reducible refine gate_callee (f := 104) rfl ?_); refine gsl (some 38) rfl Try.func104 #[.slice Ao28 x4_1.length co28] rfl ?_; (with_reducible refine (spec_PartitionValid.calls k1 _ _ x4_1 false _ ?side1 ?side2 A24.out).mono ?_); (case side1 => exact spec_PartitionOf.s0 HO_4.out); (case side2 => exact (Kd.R_reads' HO_4.out).2.1); rintro e w29 ⟨rfl, hb⟩; refine ⟨_, rfl, ?_⟩; have n0_ := Aside0.mk (Kd.R_below (kr HO_4.out) hb); have n1_ := an0 HB hb; clear HO_4; clear HB; have HO_4 := n0_; have HB := n1_; clear n0_ n1_; (try clear hb); (try clear hb2); (try clear hk); (try clear hi)) | ((with_reducible refine gate_dst (N := 40) rfl ?_); (try (refine gate_guard (by rfl) ?_; dsimp only)); refine Kd.R_lit k83 _ 83 ?hg (N := 40) ?hd (xs := ([] : List (S83))) (inner := []) (ok := fun _ => True) (okp := fun _ => True) ?hr ?hp (fun _ hk => hk) trivial (Below.refl _ _) (Nat.le_refl _) (by simp) ?_; (case hd => rfl); (case hg => rfl); (case hr => first | (go_simp; done) | (go_simp; rfl)); (case hp => exact (Reps.none _ _)); intro v285 w30 ho31 hb hg_ hnew_; clear hg_ hnew_; (first | rw [← Ny284.out] at ho31 | (simp only [Int.reduceToNat] at ho31; rw [← Ny284.out] at ho31)); have n0_ := Aside0.mk (Kd.R_elder' (kr HO_4.out) (Kd.R_base ho31) hb); have n1_ := Aside0.mk (Kd.R_lower (Kd.R_new' ho31 (Kd.R_lt (kr HO_4.out))) (below_size (bp HB.out))); have n2_ := an0 HB hb; clear HO_4; clear HB; have HO_4 := n0_; have HO286 := n1_; have HB := n2_; clear n0_ n1_ n2_; clear hb ho31))
          go_ret2
          exact ⟨_, fe, by (with_reducible repeat (first | apply Kd.R_alloc | apply Kd.R_drewN | apply Kd.R_drew)); exact Kd.R_mono HO286.out (fun _ hk => trivial), bp HB.out⟩

/-! ### spec_l20Bounds: function 139 -/
def spec_l20Bounds.l0 : Nat → Int → List ByteArray → Int → Int → List Int → Int → Option (List ByteArray × Int)
  | 0, _, _, _, _, _, _ => none
  | k + 1, x1, x5, x6, x7, x1000, x1001 => if x7 > 0 then ((spec_KeyAt.f k x6).bind fun t294 => (if x5.length < 8796093022208 then ((spec_l20Rd_pick.f k x1000 x1001 256).bind fun bt298 => ((spec_l20Rd_pick.f k x1000 bt298.2 256).bind fun bt300 => (spec_l20Bounds.l0 k x1 (x5 ++ [t294]) (wrap64 ((wrap64 (x6 + 1)) + (wrap64 (bt298.1 * bt300.1)))) (wrap64 (x7 - 1)) x1000 bt300.2))) else (none))) else ((spec_l20Rd_odd.f k x1000 x1001 x1).bind fun bt302 => (if bt302.1 = true then ((some (([(⟨#[97]⟩ : ByteArray), (⟨#[]⟩ : ByteArray), (⟨#[65]⟩ : ByteArray), (⟨#[98]⟩ : ByteArray)] : List ByteArray) : List ByteArray)).bind fun y304 => ((spec_l20Rd_pick.f k x1000 bt302.2 4).bind fun bt307 => (if 0 ≤ bt307.1 then (if bt307.1 < (y304.length : Int) then ((some (([rdOf ByteArray.empty y304 bt307.1, (⟨#[98, 98]⟩ : ByteArray)] : List ByteArray) : List ByteArray)).bind fun y310 => (if x5.length + y310.length < 8796093022208 then (some ((x5 ++ y310), bt307.2)) else (none))) else (none)) else (none)))) else (some (x5, bt302.2))))
def spec_l20Bounds.f (k : Nat) (s0_0 : List Int) (s0_1 : Int) (a1 : Int) : Option (List ByteArray × Int) := (spec_l20Rd_pick.f k s0_0 s0_1 200).bind fun bt290 => ((spec_l20Rd_pick.f k s0_0 bt290.2 6).bind fun bt292 => (spec_l20Bounds.l0 k a1 (([] : List ByteArray)) (wrap64 (1 + bt290.1)) bt292.1 s0_0 bt292.2))
theorem spec_l20Bounds.mono_l : ∀ k, (∀ y0 y1 y2 y3 y4 y5, LeO (spec_l20Bounds.l0 k y0 y1 y2 y3 y4 y5) (spec_l20Bounds.l0 (k + 1) y0 y1 y2 y3 y4 y5))
  | 0 => fun _ _ _ _ _ _ r h => by simp [spec_l20Bounds.l0] at h
  | k + 1 => by
    have ih0 := spec_l20Bounds.mono_l k
    · intro y0 y1 y2 y3 y4 y5
      unfold spec_l20Bounds.l0
      repeat' first
      | (with_reducible exact ih0 _ _ _ _ _ _)
      | (with_reducible exact spec_KeyAt.mono _ _)
      | (with_reducible exact spec_l20Rd_odd.mono _ _ _ _)
      | (with_reducible exact spec_l20Rd_pick.mono _ _ _ _)
      | (with_reducible exact LeO.refl _)
      | (with_reducible exact LeO.none _)
      | (with_reducible refine LeO.ite ?_ ?_)
      | (with_reducible refine LeO.bind ?_ (fun _ => ?_))
      | exact ih0 _ _ _ _ _ _
      | exact spec_KeyAt.mono _ _
      | exact spec_l20Rd_odd.mono _ _ _ _
      | exact spec_l20Rd_pick.mono _ _ _ _
      | exact LeO.none _
      | refine LeO.ite ?_ ?_
      | refine LeO.bind ?_ (fun _ => ?_)
theorem spec_l20Bounds.mono : ∀ a0 a1 a2 k, LeO (spec_l20Bounds.f k a0 a1 a2) (spec_l20Bounds.f (k + 1) a0 a1 a2) := by
  intro a0 a1 a2 k
  have ih0 := spec_l20Bounds.mono_l k
  unfold spec_l20Bounds.f
  repeat' first
      | (with_reducible exact ih0 _ _ _ _ _ _)
      | (with_reducible exact spec_KeyAt.mono _ _)
      | (with_reducible exact spec_l20Rd_odd.mono _ _ _ _)
      | (with_reducible exact spec_l20Rd_pick.mono _ _ _ _)
      | (with_reducible exact LeO.refl _)
      | (with_reducible exact LeO.none _)
      | (with_reducible refine LeO.ite ?_ ?_)
      | (with_reducible refine LeO.bind ?_ (fun _ => ?_))
      | exact ih0 _ _ _ _ _ _
      | exact spec_KeyAt.mono _ _
      | exact spec_l20Rd_odd.mono _ _ _ _
      | exact spec_l20Rd_pick.mono _ _ _ _
      | exact LeO.none _
      | refine LeO.ite ?_ ?_
      | refine LeO.bind ?_ (fun _ => ?_)
theorem spec_l20Bounds.s0 {P0 Q : Prop} (B0 : P0) (h : P0 → Q := by (intro b0_; repeat (first | (with_reducible first | exact b0_ | apply KeepBut.set_ | apply keep_drewN | apply keep_drew | apply keep_alloc) | exact b0_))) : Q := h B0
theorem spec_l20Bounds.s1 {P0 Q : Prop} (B0 : P0) (h : P0 → Q := by (intro b0_; repeat (first | (with_reducible first | exact b0_ | apply IsS147.alloc | apply IsS147.drewN | apply IsS147.drew | apply IsS147.set_1) | exact b0_))) : Q := h B0
theorem spec_l20Bounds.s2 {P0 P1 Q : Prop} (B0 : P0) (B1 : P1) (h : P0 → P1 → Q := by (intro b0_ b1_; repeat (first | (with_reducible first | exact b0_ | apply below_alloc | apply pw_below_drewN | apply below_drew1 | refine below_set ?_ (IsS147.ge b1_)) | exact b0_))) : Q := h B0 B1
set_option maxHeartbeats 8000000 in
set_option maxRecDepth 100000 in
theorem spec_l20Bounds.calls (k : Nat) (g : Nat) (s0_0 : List Int) (s0_1 : Int) (a1 : Int) (r1 : List ByteArray) (r2 : Int) (w0 w : World) (hI : IsS147 w0 w g s0_0 s0_1) (hB : Below w0.heap.size w0 w) (h : spec_l20Bounds.f k s0_0 s0_1 a1 = some (r1, r2)) :
    Calls Try.prog 139 #[.pointer (some ⟨g, 0, none⟩), .int .i64 a1] w fun e w' => ∃ v0_ : Value, e = .returned (v0_) ∧ Kd.R Kd.string 9 w' w.heap.size (fun _ => True) v0_ r1 ∧ IsS147 w0 w' g s0_0 r2 ∧ Below w0.heap.size w0 w' ∧ KeepBut w w' g none := by
  have HI0 := Aside0.mk hI
  have HK := Aside0.mk (KeepBut.refl w g none)
  have HL := Aside0.mk hB.size
  clear hI
  have HW0 := Aside0.mk hB.size
  have HB := Aside0.mk hB
  clear hB
  have H : ((spec_l20Rd_pick.f k s0_0 s0_1 200).bind fun bt290 => ((spec_l20Rd_pick.f k s0_0 bt290.2 6).bind fun bt292 => (spec_l20Bounds.l0 k a1 (([] : List ByteArray)) (wrap64 (1 + bt290.1)) bt292.1 s0_0 bt292.2))) = some (r1, r2) := h
  clear h
  obtain ⟨y287, hy287⟩ : ∃ y_ : List ByteArray, y_ = (([] : List ByteArray)) := ⟨_, rfl⟩
  replace H : ((spec_l20Rd_pick.f k s0_0 s0_1 200).bind fun bt290 => ((spec_l20Rd_pick.f k s0_0 bt290.2 6).bind fun bt292 => (spec_l20Bounds.l0 k a1 y287 (wrap64 (1 + bt290.1)) bt292.1 s0_0 bt292.2))) = some (r1, r2) := by first | (rw [hy287]; with_reducible exact H) | (have H2_ := (Option.bind_some _ _).symm.trans H; rw [hy287]; with_reducible exact H2_) | (have H2_ := (Option.bind_some _ _).symm.trans H; with_reducible exact H2_) | with_reducible exact H | (rw [hy287]; exact H) | exact H
  have Ny287 := Aside0.mk hy287
  clear hy287
  replace H := Option.bind_eq_some_iff.mp H
  obtain ⟨⟨t290, t291⟩, A30, H⟩ := H
  replace H : ((spec_l20Rd_pick.f k s0_0 t291 6).bind fun bt292 => (spec_l20Bounds.l0 k a1 y287 (wrap64 (1 + t290)) bt292.1 s0_0 bt292.2)) = some (r1, r2) := H
  have A3 := Aside0.mk A30
  clear A30
  replace H := Option.bind_eq_some_iff.mp H
  obtain ⟨⟨t292, t293⟩, A40, H⟩ := H
  replace H : (spec_l20Bounds.l0 k a1 y287 (wrap64 (1 + t290)) t292 s0_0 t293) = some (r1, r2) := H
  have A4 := Aside0.mk A40
  clear A40
  have H' := Aside0.mk H
  clear H
  go_enter Try.func139, Try.ntmps139
  go_wp2_with (first | ((with_reducible refine gate_dst (N := 8) rfl ?_); refine Kd.R_lit Kd.string _ 9 ?hg (N := 8) ?hd (xs := ([] : List ByteArray)) (inner := []) (ok := fun _ => True) (okp := fun _ => True) ?hr ?hp (fun _ hk => hk) trivial (Below.refl _ _) (Nat.le_refl _) (by simp) ?_; (case hd => rfl); (case hg => rfl); (case hr => first | (go_simp; done) | (go_simp; rfl)); (case hp => exact (Reps.none _ _)); intro v288 w5 ho6 hb hg_ hnew_; clear hg_ hnew_; (first | rw [← Ny287.out] at ho6 | (simp only [Int.reduceToNat] at ho6; rw [← Ny287.out] at ho6)); have n0_ := Aside0.mk (Kd.R_lower ho6 (keep_size (w := w) (g := g) (row := none) (spec_l20Bounds.s0 HK.out))); have n1_ := Aside0.mk (IsS147.below (spec_l20Bounds.s1 HI0.out) hb); have n2_ := Aside0.mk (KeepBut.trans (spec_l20Bounds.s0 HK.out) (KeepBut.of_below hb g none) (.inl rfl)); have n3_ := Aside0.mk (below_step (spec_l20Bounds.s2 HB.out HI0.out) hb); clear HI0; clear HK; clear HB; have HO289 := n0_; have HI0 := n1_; have HK := n2_; have HB := n3_; clear n0_ n1_ n2_ n3_; clear hb ho6) | ((with_reducible refine gate_callee (f := 78) rfl ?_); refine gsl (some 10) rfl Try.func78 #[.pointer (some ⟨g, 0, none⟩), .int .i64 200] rfl ?_; (with_reducible refine (spec_l20Rd_pick.calls k g s0_0 s0_1 200 t290 t291 w0 _ ?side1 ?side2 A3.out).mono ?_); (case side1 => exact spec_l20Bounds.s1 HI0.out); (case side2 => exact spec_l20Bounds.s2 HB.out HI0.out); rintro e w7 ⟨rfl, hi, hb, hk⟩; refine ⟨_, rfl, ?_⟩; have n0_ := Aside0.mk (Kd.R_mono (Kd.R_keep (IsS147.apart (show IsS147 w0 _ g s0_0 s0_1 from spec_l20Bounds.s1 HI0.out) (kr HO289.out) (by decide)) hk (fun _ h => h.2)) (fun _ h => h.1)); have n1_ := Aside0.mk (KeepBut.trans (spec_l20Bounds.s0 HK.out) hk (.inl rfl)); have n2_ := Aside0.mk (hb); have n3_ := Aside0.mk (hi); clear HO289; clear HK; clear HB; clear HI0; have HO289 := n0_; have HK := n1_; have HB := n2_; have HI0 := n3_; clear n0_ n1_ n2_ n3_; (try clear hb); (try clear hb2); (try clear hk); (try clear hi)) | ((with_reducible refine gate_callee (f := 78) rfl ?_); refine gsl (some 13) rfl Try.func78 #[.pointer (some ⟨g, 0, none⟩), .int .i64 6] rfl ?_; (with_reducible refine (spec_l20Rd_pick.calls k g s0_0 t291 6 t292 t293 w0 _ ?side1 ?side2 A4.out).mono ?_); (case side1 => exact spec_l20Bounds.s1 HI0.out); (case side2 => exact spec_l20Bounds.s2 HB.out HI0.out); rintro e w8 ⟨rfl, hi, hb, hk⟩; refine ⟨_, rfl, ?_⟩; have n0_ := Aside0.mk (Kd.R_mono (Kd.R_keep (IsS147.apart (show IsS147 w0 _ g s0_0 t291 from spec_l20Bounds.s1 HI0.out) (kr HO289.out) (by decide)) hk (fun _ h => h.2)) (fun _ h => h.1)); have n1_ := Aside0.mk (KeepBut.trans (spec_l20Bounds.s0 HK.out) hk (.inl rfl)); have n2_ := Aside0.mk (hb); have n3_ := Aside0.mk (hi); clear HO289; clear HK; clear HB; clear HI0; have HO289 := n0_; have HK := n1_; have HB := n2_; have HI0 := n3_; clear n0_ n1_ n2_ n3_; (try clear hb); (try clear hb2); (try clear hk); (try clear hi)))
  go_loopg [5, 6, 7] k (fun kq v5 v6 v7 w' => ∃ (x5_1 : List ByteArray) (x6_1 : Int) (x7_1 : Int) (x1001_1 : Int), v6 = .int .i64 x6_1 ∧ v7 = .int .i64 x7_1 ∧ Aside0 (spec_l20Bounds.l0 kq a1 x5_1 x6_1 x7_1 s0_0 x1001_1 = some (r1, r2)) ∧ Aside0 (kq ≤ k) ∧ Aside0 (Kd.R Kd.string 9 w' w.heap.size (fun _ => True) v5 x5_1) ∧ Aside0 (IsS147 w0 w' g s0_0 x1001_1) ∧ Aside0 (KeepBut w w' g none) ∧ Aside0 (Below w0.heap.size w0 w'))
  case atStart => exact ⟨(y287), (wrap64 (1 + t290)), (t292), (t293), (by first | rfl | (simp; done) | (simp [*]; done) | (simp [bne_nil_, beq_nil_]; done)), (by first | rfl | (simp; done) | (simp [*]; done) | (simp [bne_nil_, beq_nil_]; done)), H', ⟨Nat.le_refl _⟩, ⟨by (with_reducible repeat (first | apply Kd.R_alloc | apply Kd.R_drewN | apply Kd.R_drew)); exact HO289.out⟩, ⟨spec_l20Bounds.s1 HI0.out⟩, ⟨spec_l20Bounds.s0 HK.out⟩, ⟨spec_l20Bounds.s2 HB.out HI0.out⟩⟩
  case round =>
    clear H'
    try clear c1
    try clear p2
    try clear p6
    try clear c7
    obtain ⟨x5_1, x6_1, x7_1, x1001_1, rfl, rfl, HA, HK1, HO_5, HI0, HK, HB⟩ := hrel
    cases gk with
    | zero => exact absurd HA.out (by simp [spec_l20Bounds.l0])
    | succ k1 =>
      have H := HA.out
      clear HA
      simp only [spec_l20Bounds.l0] at H
      by_cases c9 : x7_1 > 0
      · rw [if_pos c9] at H
        have c9b0 : decide (0 < x7_1) = true := decide_eq_true c9
        clear c9
        replace H := Option.bind_eq_some_iff.mp H
        obtain ⟨t294, A100, H⟩ := H
        replace H : (if x5_1.length < 8796093022208 then ((spec_l20Rd_pick.f k1 s0_0 x1001_1 256).bind fun bt298 => ((spec_l20Rd_pick.f k1 s0_0 bt298.2 256).bind fun bt300 => (spec_l20Bounds.l0 k1 a1 (x5_1 ++ [t294]) (wrap64 ((wrap64 (x6_1 + 1)) + (wrap64 (bt298.1 * bt300.1)))) (wrap64 (x7_1 - 1)) s0_0 bt300.2))) else (none)) = some (r1, r2) := H
        have A10 := Aside0.mk A100
        clear A100
        by_cases c11 : x5_1.length < 8796093022208
        · rw [if_pos c11] at H
          have LMc11 := Aside0.mk c11
          clear c11
          obtain ⟨y295, hy295⟩ : ∃ y_ : List ByteArray, y_ = (x5_1 ++ [t294]) := ⟨_, rfl⟩
          replace H : ((spec_l20Rd_pick.f k1 s0_0 x1001_1 256).bind fun bt298 => ((spec_l20Rd_pick.f k1 s0_0 bt298.2 256).bind fun bt300 => (spec_l20Bounds.l0 k1 a1 y295 (wrap64 ((wrap64 (x6_1 + 1)) + (wrap64 (bt298.1 * bt300.1)))) (wrap64 (x7_1 - 1)) s0_0 bt300.2))) = some (r1, r2) := by first | (rw [hy295]; with_reducible exact H) | (have H2_ := (Option.bind_some _ _).symm.trans H; rw [hy295]; with_reducible exact H2_) | (have H2_ := (Option.bind_some _ _).symm.trans H; with_reducible exact H2_) | with_reducible exact H | (rw [hy295]; exact H) | exact H
          have Ny295 := Aside0.mk hy295
          clear hy295
          replace H := Option.bind_eq_some_iff.mp H
          obtain ⟨⟨t298, t299⟩, A120, H⟩ := H
          replace H : ((spec_l20Rd_pick.f k1 s0_0 t299 256).bind fun bt300 => (spec_l20Bounds.l0 k1 a1 y295 (wrap64 ((wrap64 (x6_1 + 1)) + (wrap64 (t298 * bt300.1)))) (wrap64 (x7_1 - 1)) s0_0 bt300.2)) = some (r1, r2) := H
          have A12 := Aside0.mk A120
          clear A120
          replace H := Option.bind_eq_some_iff.mp H
          obtain ⟨⟨t300, t301⟩, A130, H⟩ := H
          replace H : (spec_l20Bounds.l0 k1 a1 y295 (wrap64 ((wrap64 (x6_1 + 1)) + (wrap64 (t298 * t300)))) (wrap64 (x7_1 - 1)) s0_0 t301) = some (r1, r2) := H
          have A13 := Aside0.mk A130
          clear A130
          have H' := Aside0.mk H
          clear H
          go_wp2_with (first | ((with_reducible refine gate_callee (f := 124) rfl ?_); refine gsl (some 20) rfl Try.func124 #[.int .i64 x6_1] rfl ?_; (with_reducible refine (spec_KeyAt.calls k1 x6_1 t294 _ A10.out).mono ?_); rintro e w14 ⟨rfl, hb⟩; refine ⟨_, rfl, ?_⟩; have n0_ := Aside0.mk (Kd.R_below (kr HO_5.out) hb); have n1_ := Aside0.mk (IsS147.below (spec_l20Bounds.s1 HI0.out) hb); have n2_ := Aside0.mk (KeepBut.trans (spec_l20Bounds.s0 HK.out) (KeepBut.of_below hb g none) (.inl rfl)); have n3_ := Aside0.mk (below_step (spec_l20Bounds.s2 HB.out HI0.out) hb); clear HO_5; clear HI0; clear HK; clear HB; have HO_5 := n0_; have HI0 := n1_; have HK := n2_; have HB := n3_; clear n0_ n1_ n2_ n3_; (try clear hb); (try clear hb2); (try clear hk); (try clear hi)) | ((with_reducible refine gate_builtin (b := .append) (xs := #[.tmp 18, .tmp 21]) rfl ?_); at_builtin; refine Kd.R_append Kd.string w.heap.size rfl (.tmp 18) (.tmp 21) 150 9 (.string ⟨#[]⟩) 16 rfl Try.underlying150 info9 rfl (by decide) (by omega) u5 x5_1 t294 [.string t294] (fun _ => True) (fun _ => False) rfl rfl ?aP (fun _ hk => hk.elim) ?aF ?aO (Below.refl _ _) ?aS ?aL ?_; (case aP => exact rfl); (case aF => exact (fun _ _ => trivial)); (case aO => exact (kr HO_5.out)); (case aS => exact (keep_size (w := w) (g := g) (row := none) (spec_l20Bounds.s0 HK.out))); (case aL => have := LMc11.out; omega); intro v296 w15 ho hb hg hat; rw [← Ny295.out] at ho; have n0_ := Aside0.mk (IsS147.grown (spec_l20Bounds.s1 HI0.out) hg (IsS147.own_ne HI0.out HO_5.out (by decide))); have n1_ := Aside0.mk (below_weaken (spec_l20Bounds.s2 HB.out HI0.out) HL.out hb); have n2_ := Aside0.mk (KeepBut.trans (spec_l20Bounds.s0 HK.out) (KeepBut.of_grown hg g) (Kd.R_base2 HO_5.out)); have n3_ := Aside0.mk (ho); clear HI0; clear HB; clear HK; clear HO_5; have HI0 := n0_; have HB := n1_; have HK := n2_; have HO297 := n3_; clear n0_ n1_ n2_ n3_; clear ho hb hg hat) | ((with_reducible refine gate_callee (f := 78) rfl ?_); refine gsl (some 26) rfl Try.func78 #[.pointer (some ⟨g, 0, none⟩), .int .i64 256] rfl ?_; (with_reducible refine (spec_l20Rd_pick.calls k1 g s0_0 x1001_1 256 t298 t299 w0 _ ?side1 ?side2 A12.out).mono ?_); (case side1 => exact spec_l20Bounds.s1 HI0.out); (case side2 => exact spec_l20Bounds.s2 HB.out HI0.out); rintro e w16 ⟨rfl, hi, hb, hk⟩; refine ⟨_, rfl, ?_⟩; have n0_ := Aside0.mk (Kd.R_mono (Kd.R_keep (IsS147.apart (show IsS147 w0 _ g s0_0 x1001_1 from spec_l20Bounds.s1 HI0.out) (kr HO297.out) (by decide)) hk (fun _ h => h.2)) (fun _ h => h.1)); have n1_ := Aside0.mk (KeepBut.trans (spec_l20Bounds.s0 HK.out) hk (.inl rfl)); have n2_ := Aside0.mk (hb); have n3_ := Aside0.mk (hi); clear HO297; clear HK; clear HB; clear HI0; have HO297 := n0_; have HK := n1_; have HB := n2_; have HI0 := n3_; clear n0_ n1_ n2_ n3_; (try clear hb); (try clear hb2); (try clear hk); (try clear hi)) | ((with_reducible refine gate_callee (f := 78) rfl ?_); refine gsl (some 28) rfl Try.func78 #[.pointer (some ⟨g, 0, none⟩), .int .i64 256] rfl ?_; (with_reducible refine (spec_l20Rd_pick.calls k1 g s0_0 t299 256 t300 t301 w0 _ ?side1 ?side2 A13.out).mono ?_); (case side1 => exact spec_l20Bounds.s1 HI0.out); (case side2 => exact spec_l20Bounds.s2 HB.out HI0.out); rintro e w17 ⟨rfl, hi, hb, hk⟩; refine ⟨_, rfl, ?_⟩; have n0_ := Aside0.mk (Kd.R_mono (Kd.R_keep (IsS147.apart (show IsS147 w0 _ g s0_0 t299 from spec_l20Bounds.s1 HI0.out) (kr HO297.out) (by decide)) hk (fun _ h => h.2)) (fun _ h => h.1)); have n1_ := Aside0.mk (KeepBut.trans (spec_l20Bounds.s0 HK.out) hk (.inl rfl)); have n2_ := Aside0.mk (hb); have n3_ := Aside0.mk (hi); clear HO297; clear HK; clear HB; clear HI0; have HO297 := n0_; have HK := n1_; have HB := n2_; have HI0 := n3_; clear n0_ n1_ n2_ n3_; (try clear hb); (try clear hb2); (try clear hk); (try clear hi)))
          go_roundg k1
          case measure => have := HK1.out; omega
          case rel => exact ⟨(y295), (wrap64 ((wrap64 (x6_1 + 1)) + (wrap64 (t298 * t300)))), (wrap64 (x7_1 - 1)), (t301), (by first | rfl | (simp; done) | (simp [*]; done) | (simp [bne_nil_, beq_nil_]; done)), (by first | rfl | (simp; done) | (simp [*]; done) | (simp [bne_nil_, beq_nil_]; done)), H', ⟨by have := HK1.out; omega⟩, ⟨by (with_reducible repeat (first | apply Kd.R_alloc | apply Kd.R_drewN | apply Kd.R_drew)); exact HO297.out⟩, ⟨spec_l20Bounds.s1 HI0.out⟩, ⟨spec_l20Bounds.s0 HK.out⟩, ⟨spec_l20Bounds.s2 HB.out HI0.out⟩⟩
        · rw [if_neg c11] at H
          exact absurd H (by simp)
      · rw [if_neg c9] at H
        have c9b0 : decide (0 < x7_1) = false := decide_eq_false c9
        clear c9
        replace H := Option.bind_eq_some_iff.mp H
        obtain ⟨⟨t302, t303⟩, A180, H⟩ := H
        replace H : (if t302 = true then ((some (([(⟨#[97]⟩ : ByteArray), (⟨#[]⟩ : ByteArray), (⟨#[65]⟩ : ByteArray), (⟨#[98]⟩ : ByteArray)] : List ByteArray) : List ByteArray)).bind fun y304 => ((spec_l20Rd_pick.f k1 s0_0 t303 4).bind fun bt307 => (if 0 ≤ bt307.1 then (if bt307.1 < (y304.length : Int) then ((some (([rdOf ByteArray.empty y304 bt307.1, (⟨#[98, 98]⟩ : ByteArray)] : List ByteArray) : List ByteArray)).bind fun y310 => (if x5_1.length + y310.length < 8796093022208 then (some ((x5_1 ++ y310), bt307.2)) else (none))) else (none)) else (none)))) else (some (x5_1, t303))) = some (r1, r2) := H
        have A18 := Aside0.mk A180
        clear A180
        by_cases c19 : t302 = true
        · subst c19
          have H1 : ((some (([(⟨#[97]⟩ : ByteArray), (⟨#[]⟩ : ByteArray), (⟨#[65]⟩ : ByteArray), (⟨#[98]⟩ : ByteArray)] : List ByteArray) : List ByteArray)).bind fun y304 => ((spec_l20Rd_pick.f k1 s0_0 t303 4).bind fun bt307 => (if 0 ≤ bt307.1 then (if bt307.1 < (y304.length : Int) then ((some (([rdOf ByteArray.empty y304 bt307.1, (⟨#[98, 98]⟩ : ByteArray)] : List ByteArray) : List ByteArray)).bind fun y310 => (if x5_1.length + y310.length < 8796093022208 then (some ((x5_1 ++ y310), bt307.2)) else (none))) else (none)) else (none)))) = some (r1, r2) := by rw [if_pos rfl] at H; exact H
          clear H
          have H := H1
          clear H1
          obtain ⟨y304, hy304⟩ : ∃ y_ : List ByteArray, y_ = (([(⟨#[97]⟩ : ByteArray), (⟨#[]⟩ : ByteArray), (⟨#[65]⟩ : ByteArray), (⟨#[98]⟩ : ByteArray)] : List ByteArray)) := ⟨_, rfl⟩
          replace H : ((spec_l20Rd_pick.f k1 s0_0 t303 4).bind fun bt307 => (if 0 ≤ bt307.1 then (if bt307.1 < (y304.length : Int) then ((some (([rdOf ByteArray.empty y304 bt307.1, (⟨#[98, 98]⟩ : ByteArray)] : List ByteArray) : List ByteArray)).bind fun y310 => (if x5_1.length + y310.length < 8796093022208 then (some ((x5_1 ++ y310), bt307.2)) else (none))) else (none)) else (none))) = some (r1, r2) := by first | (rw [hy304]; with_reducible exact H) | (have H2_ := (Option.bind_some _ _).symm.trans H; rw [hy304]; with_reducible exact H2_) | (have H2_ := (Option.bind_some _ _).symm.trans H; with_reducible exact H2_) | with_reducible exact H | (rw [hy304]; exact H) | exact H
          have Ny304 := Aside0.mk hy304
          clear hy304
          replace H := Option.bind_eq_some_iff.mp H
          obtain ⟨⟨t307, t308⟩, A200, H⟩ := H
          replace H : (if 0 ≤ t307 then (if t307 < (y304.length : Int) then ((some (([rdOf ByteArray.empty y304 t307, (⟨#[98, 98]⟩ : ByteArray)] : List ByteArray) : List ByteArray)).bind fun y310 => (if x5_1.length + y310.length < 8796093022208 then (some ((x5_1 ++ y310), t308)) else (none))) else (none)) else (none)) = some (r1, r2) := H
          have A20 := Aside0.mk A200
          clear A200
          by_cases c21 : 0 ≤ t307
          · rw [if_pos c21] at H
            have c21b0 : decide (0 ≤ t307) = true := decide_eq_true c21
            clear c21
            by_cases c22 : t307 < (y304.length : Int)
            · rw [if_pos c22] at H
              have c22b0 : decide (t307 < (y304.length : Int)) = true := decide_eq_true c22
              clear c22
              obtain ⟨y310, hy310⟩ : ∃ y_ : List ByteArray, y_ = (([rdOf ByteArray.empty y304 t307, (⟨#[98, 98]⟩ : ByteArray)] : List ByteArray)) := ⟨_, rfl⟩
              replace H : (if x5_1.length + y310.length < 8796093022208 then (some ((x5_1 ++ y310), t308)) else (none)) = some (r1, r2) := by first | (rw [hy310]; with_reducible exact H) | (have H2_ := (Option.bind_some _ _).symm.trans H; rw [hy310]; with_reducible exact H2_) | (have H2_ := (Option.bind_some _ _).symm.trans H; with_reducible exact H2_) | with_reducible exact H | (rw [hy310]; exact H) | exact H
              have Ny310 := Aside0.mk hy310
              clear hy310
              by_cases c23 : x5_1.length + y310.length < 8796093022208
              · rw [if_pos c23] at H
                have LMc23 := Aside0.mk c23
                clear c23
                obtain ⟨y313, hy313⟩ : ∃ y_ : List ByteArray, y_ = (x5_1 ++ y310) := ⟨_, rfl⟩
                replace H : (some (y313, t308)) = some (r1, r2) := by first | (rw [hy313]; with_reducible exact H) | (have H2_ := (Option.bind_some _ _).symm.trans H; rw [hy313]; with_reducible exact H2_) | (have H2_ := (Option.bind_some _ _).symm.trans H; with_reducible exact H2_) | with_reducible exact H | (rw [hy313]; exact H) | exact H
                have Ny313 := Aside0.mk hy313
                clear hy313
                simp only [Option.some.injEq, Prod.mk.injEq] at H
                obtain ⟨rfl, rfl⟩ := H
                go_wp2_with (first | ((with_reducible refine gate_callee (f := 125) rfl ?_); refine gsl (some 33) rfl Try.func125 #[.pointer (some ⟨g, 0, none⟩), .int .i64 a1] rfl ?_; (with_reducible refine (spec_l20Rd_odd.calls k1 g s0_0 x1001_1 a1 true t303 w0 _ ?side1 ?side2 A18.out).mono ?_); (case side1 => exact spec_l20Bounds.s1 HI0.out); (case side2 => exact spec_l20Bounds.s2 HB.out HI0.out); rintro e w24 ⟨rfl, hi, hb, hk⟩; refine ⟨_, rfl, ?_⟩; have n0_ := Aside0.mk (Kd.R_mono (Kd.R_keep (IsS147.apart (show IsS147 w0 _ g s0_0 x1001_1 from spec_l20Bounds.s1 HI0.out) (kr HO_5.out) (by decide)) hk (fun _ h => h.2)) (fun _ h => h.1)); have n1_ := Aside0.mk (KeepBut.trans (spec_l20Bounds.s0 HK.out) hk (.inl rfl)); have n2_ := Aside0.mk (hb); have n3_ := Aside0.mk (hi); clear HO_5; clear HK; clear HB; clear HI0; have HO_5 := n0_; have HK := n1_; have HB := n2_; have HI0 := n3_; clear n0_ n1_ n2_ n3_; (try clear hb); (try clear hb2); (try clear hk); (try clear hi)) | ((with_reducible refine gate_dst (N := 35) rfl ?_); refine Kd.R_lit Kd.string _ 9 ?hg (N := 35) ?hd (xs := ([(⟨#[97]⟩ : ByteArray), (⟨#[]⟩ : ByteArray), (⟨#[65]⟩ : ByteArray), (⟨#[98]⟩ : ByteArray)] : List ByteArray)) (inner := [.string (⟨#[97]⟩ : ByteArray), .string (⟨#[]⟩ : ByteArray), .string (⟨#[65]⟩ : ByteArray), .string (⟨#[98]⟩ : ByteArray)]) (ok := fun _ => True) (okp := fun _ => True) ?hr ?hp (fun _ hk => hk) trivial (Below.refl _ _) (Nat.le_refl _) (by simp) ?_; (case hd => rfl); (case hg => rfl); (case hr => first | (go_simp; done) | (go_simp; rfl)); (case hp => exact (Reps.one (show Kd.M Kd.string _ _ _ (⟨#[97]⟩ : ByteArray) [.string (⟨#[97]⟩ : ByteArray)] from rfl) (Reps.one (show Kd.M Kd.string _ _ _ (⟨#[]⟩ : ByteArray) [.string (⟨#[]⟩ : ByteArray)] from rfl) (Reps.one (show Kd.M Kd.string _ _ _ (⟨#[65]⟩ : ByteArray) [.string (⟨#[65]⟩ : ByteArray)] from rfl) (Reps.one (show Kd.M Kd.string _ _ _ (⟨#[98]⟩ : ByteArray) [.string (⟨#[98]⟩ : ByteArray)] from rfl) (Reps.none _ _)))))); intro v305 w25 ho26 hb hg_ hnew_; clear hg_ hnew_; (first | rw [← Ny304.out] at ho26 | (simp only [Int.reduceToNat] at ho26; rw [← Ny304.out] at ho26)); have n0_ := Aside0.mk (Kd.R_elder' (kr HO_5.out) (Kd.R_base ho26) hb); have n1_ := Aside0.mk (Kd.R_lower (Kd.R_new' ho26 (Kd.R_lt (kr HO_5.out))) (keep_size (w := w) (g := g) (row := none) (spec_l20Bounds.s0 HK.out))); have n2_ := Aside0.mk (IsS147.below (spec_l20Bounds.s1 HI0.out) hb); have n3_ := Aside0.mk (KeepBut.trans (spec_l20Bounds.s0 HK.out) (KeepBut.of_below hb g none) (.inl rfl)); have n4_ := Aside0.mk (below_step (spec_l20Bounds.s2 HB.out HI0.out) hb); clear HO_5; clear HI0; clear HK; clear HB; have HO_5 := n0_; have HO306 := n1_; have HI0 := n2_; have HK := n3_; have HB := n4_; clear n0_ n1_ n2_ n3_ n4_; clear hb ho26) | ((with_reducible refine gate_callee (f := 78) rfl ?_); refine gsl (some 37) rfl Try.func78 #[.pointer (some ⟨g, 0, none⟩), .int .i64 4] rfl ?_; (with_reducible refine (spec_l20Rd_pick.calls k1 g s0_0 t303 4 t307 t308 w0 _ ?side1 ?side2 A20.out).mono ?_); (case side1 => exact spec_l20Bounds.s1 HI0.out); (case side2 => exact spec_l20Bounds.s2 HB.out HI0.out); rintro e w27 ⟨rfl, hi, hb, hk⟩; refine ⟨_, rfl, ?_⟩; have n0_ := Aside0.mk (Kd.R_mono (Kd.R_keep (IsS147.apart (show IsS147 w0 _ g s0_0 t303 from spec_l20Bounds.s1 HI0.out) (kr HO_5.out) (by decide)) hk (fun _ h => h.2)) (fun _ h => h.1)); have n1_ := Aside0.mk (Kd.R_mono (Kd.R_keep (IsS147.apart (show IsS147 w0 _ g s0_0 t303 from spec_l20Bounds.s1 HI0.out) (kr HO306.out) (by decide)) hk (fun _ h => h.2)) (fun _ h => h.1)); have n2_ := Aside0.mk (KeepBut.trans (spec_l20Bounds.s0 HK.out) hk (.inl rfl)); have n3_ := Aside0.mk (hb); have n4_ := Aside0.mk (hi); clear HO_5; clear HO306; clear HK; clear HB; clear HI0; have HO_5 := n0_; have HO306 := n1_; have HK := n2_; have HB := n3_; have HI0 := n4_; clear n0_ n1_ n2_ n3_ n4_; (try clear hb); (try clear hb2); (try clear hk); (try clear hi); obtain ⟨Ao28, co28, eo28⟩ := Kd.R_slice HO306.out; subst eo28; have p309 : 0 ≤ (t307 : Int) := of_decide_eq_true (by first | (with_reducible assumption) | assumption); have q309 : t307 < (y304.length : Int) := of_decide_eq_true (by first | (with_reducible assumption) | assumption); obtain ⟨ad309, e309, hx309_0⟩ := Kd.at_string (Kd.R_reads' HO306.out).2.2 t307 p309 q309; cases e309; replace p309 := eq_true p309; replace q309 := eq_true q309) | ((with_reducible refine gate_dst (N := 40) rfl ?_); refine Kd.R_lit Kd.string _ 9 ?hg (N := 40) ?hd (xs := ([rdOf ByteArray.empty y304 t307, (⟨#[98, 98]⟩ : ByteArray)] : List ByteArray)) (inner := [.string (rdOf ByteArray.empty y304 t307), .string (⟨#[98, 98]⟩ : ByteArray)]) (ok := fun _ => True) (okp := fun _ => True) ?hr ?hp (fun _ hk => hk) trivial (Below.refl _ _) (Nat.le_refl _) (by simp) ?_; (case hd => rfl); (case hg => rfl); (case hr => first | (go_simp; done) | (go_simp; rfl)); (case hp => exact (Reps.one (show Kd.M Kd.string _ _ _ (rdOf ByteArray.empty y304 t307) [.string (rdOf ByteArray.empty y304 t307)] from rfl) (Reps.one (show Kd.M Kd.string _ _ _ (⟨#[98, 98]⟩ : ByteArray) [.string (⟨#[98, 98]⟩ : ByteArray)] from rfl) (Reps.none _ _)))); intro v311 w29 ho30 hb hg_ hnew_; clear hg_ hnew_; (first | rw [← Ny310.out] at ho30 | (simp only [Int.reduceToNat] at ho30; rw [← Ny310.out] at ho30)); have n0_ := Aside0.mk (Kd.R_elder' (kr HO_5.out) (Kd.R_base ho30) hb); have n1_ := Aside0.mk (Kd.R_elder' (kr HO306.out) (Kd.R_base ho30) hb); have n2_ := Aside0.mk (Kd.R_lower (Kd.R_new' (Kd.R_new' ho30 (Kd.R_lt (kr HO_5.out))) (Kd.R_lt (kr HO306.out))) (keep_size (w := w) (g := g) (row := none) (spec_l20Bounds.s0 HK.out))); have n3_ := Aside0.mk (IsS147.below (spec_l20Bounds.s1 HI0.out) hb); have n4_ := Aside0.mk (KeepBut.trans (spec_l20Bounds.s0 HK.out) (KeepBut.of_below hb g none) (.inl rfl)); have n5_ := Aside0.mk (below_step (spec_l20Bounds.s2 HB.out HI0.out) hb); clear HO_5; clear HO306; clear HI0; clear HK; clear HB; have HO_5 := n0_; have HO306 := n1_; have HO312 := n2_; have HI0 := n3_; have HK := n4_; have HB := n5_; clear n0_ n1_ n2_ n3_ n4_ n5_; clear hb ho30; obtain ⟨Ao32, co32, eo32⟩ := Kd.R_slice HO312.out; subst eo32) | ((with_reducible refine gate_builtin (b := .append) (xs := #[.tmp 34, .tmp 40]) rfl ?_); at_builtin; refine Kd.R_append_rows Kd.string w.heap.size rfl (.tmp 34) (.tmp 40) 150 9 (.string ⟨#[]⟩) 16 rfl Try.underlying150 info9 rfl (by decide) (by omega) u5 x5_1 y310 _ _ _ (fun k_ => some k_ ≠ (.slice (some ad309) y304.length co28 : Value).ownBlock ∧ some k_ ≠ (.slice Ao32 y310.length co32 : Value).ownBlock) (fun _ => False) rfl rfl ?aO ?aR (fun _ _ h => h) (fun _ h => h.elim) ?aF (Below.refl _ _) ?aS ?aL ?_; (case aR => repeat (first | exact (Kd.R_reads' HO312.out).2.2 | (with_reducible refine Kd.C_alloc ?_ _) | (with_reducible refine Kd.C_drewN ?_ _) | (with_reducible refine Kd.C_drew ?_))); (case aF => exact (fun k_ hk => ⟨Kd.fresh' (Kd.R_lt (kr HO306.out)) k_ hk, Kd.fresh' (Kd.R_lt (kr HO312.out)) k_ hk⟩)); (case aO => exact (by (with_reducible repeat (first | apply Kd.R_alloc | apply Kd.R_drewN | apply Kd.R_drew)); exact Kd.R_mono HO_5.out (fun _ hk => ⟨hk.1.2, hk.2⟩))); (case aS => exact (keep_size (w := w) (g := g) (row := none) (spec_l20Bounds.s0 HK.out))); (case aL => have := LMc23.out; omega); intro v314 w31 ho hb hg hat; rw [← Ny313.out] at ho; have n0_ := Aside0.mk (IsS147.grown (spec_l20Bounds.s1 HI0.out) hg (IsS147.own_ne HI0.out HO_5.out (by decide))); have n1_ := Aside0.mk (Kd.R_after (ok := (fun k_ => some k_ ≠ (.slice Ao32 y310.length co32 : Value).ownBlock)) (by (with_reducible repeat (first | apply Kd.R_alloc | apply Kd.R_drewN | apply Kd.R_drew)); exact Kd.R_mono HO306.out (fun _ hk => ⟨hk.2, hk.1.2⟩)) hg hat); have n2_ := Aside0.mk (Kd.R_after (ok := (fun k_ => some k_ ≠ (.slice (some ad309) y304.length co28 : Value).ownBlock)) (by (with_reducible repeat (first | apply Kd.R_alloc | apply Kd.R_drewN | apply Kd.R_drew)); exact Kd.R_mono HO312.out (fun _ hk => ⟨hk.2, hk.1.2⟩)) hg hat); have n3_ := Aside0.mk (below_weaken (spec_l20Bounds.s2 HB.out HI0.out) HL.out hb); have n4_ := Aside0.mk (KeepBut.trans (spec_l20Bounds.s0 HK.out) (KeepBut.of_grown hg g) (Kd.R_base2 HO_5.out)); have n5_ := Aside0.mk (ho); clear HI0; clear HO306; clear HO312; clear HB; clear HK; clear HO_5; have HI0 := n0_; have HO306 := n1_; have HO312 := n2_; have HB := n3_; have HK := n4_; have HO315 := n5_; clear n0_ n1_ n2_ n3_ n4_ n5_; clear ho hb hg hat))
                go_ret
                exact ⟨_, fe, by (with_reducible repeat (first | apply Kd.R_alloc | apply Kd.R_drewN | apply Kd.R_drew)); exact Kd.R_mono HO315.out (fun _ hk => trivial), spec_l20Bounds.s1 HI0.out, spec_l20Bounds.s2 HB.out HI0.out, spec_l20Bounds.s0 HK.out⟩
              · rw [if_neg c23] at H
                exact absurd H (by simp)
            · rw [if_neg c22] at H
              exact absurd H (by simp)
          · rw [if_neg c21] at H
            exact absurd H (by simp)
        · replace c19 := Bool.eq_false_iff.mpr c19
          subst c19
          have H1 : (some (x5_1, t303)) = some (r1, r2) := by rw [if_neg (show ¬ (false = true) by decide)] at H; exact H
          clear H
          have H := H1
          clear H1
          simp only [Option.some.injEq, Prod.mk.injEq] at H
          obtain ⟨rfl, rfl⟩ := H
          go_wp2_with (first | ((with_reducible refine gate_callee (f := 125) rfl ?_); refine gsl (some 33) rfl Try.func125 #[.pointer (some ⟨g, 0, none⟩), .int .i64 a1] rfl ?_; (with_reducible refine (spec_l20Rd_odd.calls k1 g s0_0 x1001_1 a1 false t303 w0 _ ?side1 ?side2 A18.out).mono ?_); (case side1 => exact spec_l20Bounds.s1 HI0.out); (case side2 => exact spec_l20Bounds.s2 HB.out HI0.out); rintro e w33 ⟨rfl, hi, hb, hk⟩; refine ⟨_, rfl, ?_⟩; have n0_ := Aside0.mk (Kd.R_mono (Kd.R_keep (IsS147.apart (show IsS147 w0 _ g s0_0 x1001_1 from spec_l20Bounds.s1 HI0.out) (kr HO_5.out) (by decide)) hk (fun _ h => h.2)) (fun _ h => h.1)); have n1_ := Aside0.mk (KeepBut.trans (spec_l20Bounds.s0 HK.out) hk (.inl rfl)); have n2_ := Aside0.mk (hb); have n3_ := Aside0.mk (hi); clear HO_5; clear HK; clear HB; clear HI0; have HO_5 := n0_; have HK := n1_; have HB := n2_; have HI0 := n3_; clear n0_ n1_ n2_ n3_; (try clear hb); (try clear hb2); (try clear hk); (try clear hi)))
          go_ret
          exact ⟨_, fe, by (with_reducible repeat (first | apply Kd.R_alloc | apply Kd.R_drewN | apply Kd.R_drew)); exact HO_5.out, spec_l20Bounds.s1 HI0.out, spec_l20Bounds.s2 HB.out HI0.out, spec_l20Bounds.s0 HK.out⟩

/-! ### spec_l20Parts: function 103 -/
def spec_l20Parts.f (k : Nat) (s0_0 : List Int) (s0_1 : Int) (a1 : Int) : Option ((List (S83)) × Int) := (spec_l20Bounds.f k s0_0 s0_1 0).bind fun bt316 => ((spec_PartitionOf.f k bt316.1).bind fun bt320 => ((spec_l20Rd_odd.f k s0_0 bt316.2 a1).bind fun bt324 => (if bt324.1 = true then ((spec_l20Rd_pick.f k s0_0 bt324.2 5).bind fun bt326 => (if bt326.1 = 0 then (if 1 ≤ (bt320.1.length : Int) then (some ((bt320.1.drop (1 : Int).toNat), bt326.2)) else (none)) else (if bt326.1 = 1 then (if bt320.1.length < 4398046511104 then (some ((bt320.1 ++ [(⟨(⟨#[122, 122]⟩ : ByteArray), (⟨#[]⟩ : ByteArray)⟩ : S83)]), bt326.2)) else (none)) else (if bt326.1 = 2 then (if 0 ≤ (wrap64 ((bt320.1.length : Int) - 1)) then (if (wrap64 ((bt320.1.length : Int) - 1)) < (bt320.1.length : Int) then (some ((bt320.1.set ((wrap64 ((bt320.1.length : Int) - 1)) : Int).toNat (⟨(rd_T83 bt320.1 (wrap64 ((bt320.1.length : Int) - 1))).f0, (⟨#[122, 122, 122, 122]⟩ : ByteArray)⟩ : S83)), bt326.2)) else (none)) else (none)) else (if bt326.1 = 3 then (if 0 < (bt320.1.length : Int) then (some ((bt320.1.set (0 : Int).toNat (⟨(⟨#[97]⟩ : ByteArray), (rd_T83 bt320.1 0).f1⟩ : S83)), bt326.2)) else (none)) else (if bt320.1.length + bt320.1.length < 4398046511104 then (some ((bt320.1 ++ bt320.1), bt326.2)) else (none))))))) else (some (bt320.1, bt324.2)))))
theorem spec_l20Parts.mono : ∀ a0 a1 a2 k, LeO (spec_l20Parts.f k a0 a1 a2) (spec_l20Parts.f (k + 1) a0 a1 a2) := by
  intro a0 a1 a2 k
  unfold spec_l20Parts.f
  repeat' first
      | (with_reducible exact spec_PartitionOf.mono _ _)
      | (with_reducible exact spec_l20Bounds.mono _ _ _ _)
      | (with_reducible exact spec_l20Rd_odd.mono _ _ _ _)
      | (with_reducible exact spec_l20Rd_pick.mono _ _ _ _)
      | (with_reducible exact LeO.refl _)
      | (with_reducible exact LeO.none _)
      | (with_reducible refine LeO.ite ?_ ?_)
      | (with_reducible refine LeO.bind ?_ (fun _ => ?_))
      | exact spec_PartitionOf.mono _ _
      | exact spec_l20Bounds.mono _ _ _ _
      | exact spec_l20Rd_odd.mono _ _ _ _
      | exact spec_l20Rd_pick.mono _ _ _ _
      | exact LeO.none _
      | refine LeO.ite ?_ ?_
      | refine LeO.bind ?_ (fun _ => ?_)
theorem spec_l20Parts.s0 {P0 Q : Prop} (B0 : P0) (h : P0 → Q := by (intro b0_; repeat (first | (with_reducible first | exact b0_ | apply IsS147.alloc | apply IsS147.drewN | apply IsS147.drew | apply IsS147.set_1) | exact b0_))) : Q := h B0
theorem spec_l20Parts.s1 {P0 P1 Q : Prop} (B0 : P0) (B1 : P1) (h : P0 → P1 → Q := by (intro b0_ b1_; repeat (first | (with_reducible first | exact b0_ | apply below_alloc | apply pw_below_drewN | apply below_drew1 | refine below_set ?_ (IsS147.ge b1_)) | exact b0_))) : Q := h B0 B1
theorem spec_l20Parts.s2 {P0 Q : Prop} (B0 : P0) (h : P0 → Q := by (intro b0_; repeat (first | (with_reducible first | exact b0_ | apply KeepBut.set_ | apply keep_drewN | apply keep_drew | apply keep_alloc) | exact b0_))) : Q := h B0
theorem spec_l20Parts.s3 {P0 Q : Prop} (B0 : P0) (h : P0 → Q := by (intro b0_; repeat (first | exact (Kd.R_reads' b0_).2.2 | (with_reducible refine Kd.C_alloc ?_ _) | (with_reducible refine Kd.C_drewN ?_ _) | (with_reducible refine Kd.C_drew ?_)))) : Q := h B0
set_option maxHeartbeats 8000000 in
set_option maxRecDepth 100000 in
theorem spec_l20Parts.calls (k : Nat) (g : Nat) (s0_0 : List Int) (s0_1 : Int) (a1 : Int) (r1 : List (S83)) (r2 : Int) (w0 w : World) (hI : IsS147 w0 w g s0_0 s0_1) (hB : Below w0.heap.size w0 w) (h : spec_l20Parts.f k s0_0 s0_1 a1 = some (r1, r2)) :
    Calls Try.prog 103 #[.pointer (some ⟨g, 0, none⟩), .int .i64 a1] w fun e w' => ∃ v0_ : Value, e = .returned (v0_) ∧ Kd.Q k83 83 w' w.heap.size (fun _ => True) v0_ r1 ∧ IsS147 w0 w' g s0_0 r2 ∧ Below w0.heap.size w0 w' ∧ KeepBut w w' g none := by
  have hu83 := Try.underlying83
  have HI0 := Aside0.mk hI
  have HK := Aside0.mk (KeepBut.refl w g none)
  have HL := Aside0.mk hB.size
  clear hI
  have HW0 := Aside0.mk hB.size
  have HB := Aside0.mk hB
  clear hB
  have H : ((spec_l20Bounds.f k s0_0 s0_1 0).bind fun bt316 => ((spec_PartitionOf.f k bt316.1).bind fun bt320 => ((spec_l20Rd_odd.f k s0_0 bt316.2 a1).bind fun bt324 => (if bt324.1 = true then ((spec_l20Rd_pick.f k s0_0 bt324.2 5).bind fun bt326 => (if bt326.1 = 0 then (if 1 ≤ (bt320.1.length : Int) then (some ((bt320.1.drop (1 : Int).toNat), bt326.2)) else (none)) else (if bt326.1 = 1 then (if bt320.1.length < 4398046511104 then (some ((bt320.1 ++ [(⟨(⟨#[122, 122]⟩ : ByteArray), (⟨#[]⟩ : ByteArray)⟩ : S83)]), bt326.2)) else (none)) else (if bt326.1 = 2 then (if 0 ≤ (wrap64 ((bt320.1.length : Int) - 1)) then (if (wrap64 ((bt320.1.length : Int) - 1)) < (bt320.1.length : Int) then (some ((bt320.1.set ((wrap64 ((bt320.1.length : Int) - 1)) : Int).toNat (⟨(rd_T83 bt320.1 (wrap64 ((bt320.1.length : Int) - 1))).f0, (⟨#[122, 122, 122, 122]⟩ : ByteArray)⟩ : S83)), bt326.2)) else (none)) else (none)) else (if bt326.1 = 3 then (if 0 < (bt320.1.length : Int) then (some ((bt320.1.set (0 : Int).toNat (⟨(⟨#[97]⟩ : ByteArray), (rd_T83 bt320.1 0).f1⟩ : S83)), bt326.2)) else (none)) else (if bt320.1.length + bt320.1.length < 4398046511104 then (some ((bt320.1 ++ bt320.1), bt326.2)) else (none))))))) else (some (bt320.1, bt324.2)))))) = some (r1, r2) := h
  clear h
  replace H := Option.bind_eq_some_iff.mp H
  obtain ⟨⟨t316, t319⟩, A30, H⟩ := H
  replace H : ((spec_PartitionOf.f k t316).bind fun bt320 => ((spec_l20Rd_odd.f k s0_0 t319 a1).bind fun bt324 => (if bt324.1 = true then ((spec_l20Rd_pick.f k s0_0 bt324.2 5).bind fun bt326 => (if bt326.1 = 0 then (if 1 ≤ (bt320.1.length : Int) then (some ((bt320.1.drop (1 : Int).toNat), bt326.2)) else (none)) else (if bt326.1 = 1 then (if bt320.1.length < 4398046511104 then (some ((bt320.1 ++ [(⟨(⟨#[122, 122]⟩ : ByteArray), (⟨#[]⟩ : ByteArray)⟩ : S83)]), bt326.2)) else (none)) else (if bt326.1 = 2 then (if 0 ≤ (wrap64 ((bt320.1.length : Int) - 1)) then (if (wrap64 ((bt320.1.length : Int) - 1)) < (bt320.1.length : Int) then (some ((bt320.1.set ((wrap64 ((bt320.1.length : Int) - 1)) : Int).toNat (⟨(rd_T83 bt320.1 (wrap64 ((bt320.1.length : Int) - 1))).f0, (⟨#[122, 122, 122, 122]⟩ : ByteArray)⟩ : S83)), bt326.2)) else (none)) else (none)) else (if bt326.1 = 3 then (if 0 < (bt320.1.length : Int) then (some ((bt320.1.set (0 : Int).toNat (⟨(⟨#[97]⟩ : ByteArray), (rd_T83 bt320.1 0).f1⟩ : S83)), bt326.2)) else (none)) else (if bt320.1.length + bt320.1.length < 4398046511104 then (some ((bt320.1 ++ bt320.1), bt326.2)) else (none))))))) else (some (bt320.1, bt324.2))))) = some (r1, r2) := H
  have A3 := Aside0.mk A30
  clear A30
  replace H := Option.bind_eq_some_iff.mp H
  obtain ⟨⟨t320, t321⟩, A40, H⟩ := H
  replace H : ((spec_l20Rd_odd.f k s0_0 t319 a1).bind fun bt324 => (if bt324.1 = true then ((spec_l20Rd_pick.f k s0_0 bt324.2 5).bind fun bt326 => (if bt326.1 = 0 then (if 1 ≤ (t320.length : Int) then (some ((t320.drop (1 : Int).toNat), bt326.2)) else (none)) else (if bt326.1 = 1 then (if t320.length < 4398046511104 then (some ((t320 ++ [(⟨(⟨#[122, 122]⟩ : ByteArray), (⟨#[]⟩ : ByteArray)⟩ : S83)]), bt326.2)) else (none)) else (if bt326.1 = 2 then (if 0 ≤ (wrap64 ((t320.length : Int) - 1)) then (if (wrap64 ((t320.length : Int) - 1)) < (t320.length : Int) then (some ((t320.set ((wrap64 ((t320.length : Int) - 1)) : Int).toNat (⟨(rd_T83 t320 (wrap64 ((t320.length : Int) - 1))).f0, (⟨#[122, 122, 122, 122]⟩ : ByteArray)⟩ : S83)), bt326.2)) else (none)) else (none)) else (if bt326.1 = 3 then (if 0 < (t320.length : Int) then (some ((t320.set (0 : Int).toNat (⟨(⟨#[97]⟩ : ByteArray), (rd_T83 t320 0).f1⟩ : S83)), bt326.2)) else (none)) else (if t320.length + t320.length < 4398046511104 then (some ((t320 ++ t320), bt326.2)) else (none))))))) else (some (t320, bt324.2)))) = some (r1, r2) := H
  have A4 := Aside0.mk A40
  clear A40
  replace H := Option.bind_eq_some_iff.mp H
  obtain ⟨⟨t324, t325⟩, A50, H⟩ := H
  replace H : (if t324 = true then ((spec_l20Rd_pick.f k s0_0 t325 5).bind fun bt326 => (if bt326.1 = 0 then (if 1 ≤ (t320.length : Int) then (some ((t320.drop (1 : Int).toNat), bt326.2)) else (none)) else (if bt326.1 = 1 then (if t320.length < 4398046511104 then (some ((t320 ++ [(⟨(⟨#[122, 122]⟩ : ByteArray), (⟨#[]⟩ : ByteArray)⟩ : S83)]), bt326.2)) else (none)) else (if bt326.1 = 2 then (if 0 ≤ (wrap64 ((t320.length : Int) - 1)) then (if (wrap64 ((t320.length : Int) - 1)) < (t320.length : Int) then (some ((t320.set ((wrap64 ((t320.length : Int) - 1)) : Int).toNat (⟨(rd_T83 t320 (wrap64 ((t320.length : Int) - 1))).f0, (⟨#[122, 122, 122, 122]⟩ : ByteArray)⟩ : S83)), bt326.2)) else (none)) else (none)) else (if bt326.1 = 3 then (if 0 < (t320.length : Int) then (some ((t320.set (0 : Int).toNat (⟨(⟨#[97]⟩ : ByteArray), (rd_T83 t320 0).f1⟩ : S83)), bt326.2)) else (none)) else (if t320.length + t320.length < 4398046511104 then (some ((t320 ++ t320), bt326.2)) else (none))))))) else (some (t320, t325))) = some (r1, r2) := H
  have A5 := Aside0.mk A50
  clear A50
  by_cases c6 : t324 = true
  · subst c6
    have H1 : ((spec_l20Rd_pick.f k s0_0 t325 5).bind fun bt326 => (if bt326.1 = 0 then (if 1 ≤ (t320.length : Int) then (some ((t320.drop (1 : Int).toNat), bt326.2)) else (none)) else (if bt326.1 = 1 then (if t320.length < 4398046511104 then (some ((t320 ++ [(⟨(⟨#[122, 122]⟩ : ByteArray), (⟨#[]⟩ : ByteArray)⟩ : S83)]), bt326.2)) else (none)) else (if bt326.1 = 2 then (if 0 ≤ (wrap64 ((t320.length : Int) - 1)) then (if (wrap64 ((t320.length : Int) - 1)) < (t320.length : Int) then (some ((t320.set ((wrap64 ((t320.length : Int) - 1)) : Int).toNat (⟨(rd_T83 t320 (wrap64 ((t320.length : Int) - 1))).f0, (⟨#[122, 122, 122, 122]⟩ : ByteArray)⟩ : S83)), bt326.2)) else (none)) else (none)) else (if bt326.1 = 3 then (if 0 < (t320.length : Int) then (some ((t320.set (0 : Int).toNat (⟨(⟨#[97]⟩ : ByteArray), (rd_T83 t320 0).f1⟩ : S83)), bt326.2)) else (none)) else (if t320.length + t320.length < 4398046511104 then (some ((t320 ++ t320), bt326.2)) else (none))))))) = some (r1, r2) := by rw [if_pos rfl] at H; exact H
    clear H
    have H := H1
    clear H1
    replace H := Option.bind_eq_some_iff.mp H
    obtain ⟨⟨t326, t327⟩, A70, H⟩ := H
    replace H : (if t326 = 0 then (if 1 ≤ (t320.length : Int) then (some ((t320.drop (1 : Int).toNat), t327)) else (none)) else (if t326 = 1 then (if t320.length < 4398046511104 then (some ((t320 ++ [(⟨(⟨#[122, 122]⟩ : ByteArray), (⟨#[]⟩ : ByteArray)⟩ : S83)]), t327)) else (none)) else (if t326 = 2 then (if 0 ≤ (wrap64 ((t320.length : Int) - 1)) then (if (wrap64 ((t320.length : Int) - 1)) < (t320.length : Int) then (some ((t320.set ((wrap64 ((t320.length : Int) - 1)) : Int).toNat (⟨(rd_T83 t320 (wrap64 ((t320.length : Int) - 1))).f0, (⟨#[122, 122, 122, 122]⟩ : ByteArray)⟩ : S83)), t327)) else (none)) else (none)) else (if t326 = 3 then (if 0 < (t320.length : Int) then (some ((t320.set (0 : Int).toNat (⟨(⟨#[97]⟩ : ByteArray), (rd_T83 t320 0).f1⟩ : S83)), t327)) else (none)) else (if t320.length + t320.length < 4398046511104 then (some ((t320 ++ t320), t327)) else (none)))))) = some (r1, r2) := H
    have A7 := Aside0.mk A70
    clear A70
    by_cases c8 : t326 = 0
    · rw [if_pos c8] at H
      have c8b0 : (t326 == 0) = true := beq_iff_eq.mpr c8
      have c8b1 : (t326 != 0) = false := bne_eq_false_iff_eq.mpr c8
      clear c8
      by_cases c9 : 1 ≤ (t320.length : Int)
      · rw [if_pos c9] at H
        have c9b0 := eq_true c9
        have c9b1 : decide (1 ≤ (t320.length : Int)) = true := decide_eq_true c9
        clear c9
        obtain ⟨y328, hy328⟩ : ∃ y_ : List (S83), y_ = (t320.drop (1 : Int).toNat) := ⟨_, rfl⟩
        replace H : (some (y328, t327)) = some (r1, r2) := by first | (rw [hy328]; with_reducible exact H) | (have H2_ := (Option.bind_some _ _).symm.trans H; rw [hy328]; with_reducible exact H2_) | (have H2_ := (Option.bind_some _ _).symm.trans H; with_reducible exact H2_) | with_reducible exact H | (rw [hy328]; exact H) | exact H
        have Ny328 := Aside0.mk hy328
        clear hy328
        simp only [Option.some.injEq, Prod.mk.injEq] at H
        obtain ⟨rfl, rfl⟩ := H
        go_enter Try.func103, Try.ntmps103
        go_wp2_with (first | ((with_reducible refine gate_callee (f := 139) rfl ?_); refine gsl (some 9) rfl Try.func139 #[.pointer (some ⟨g, 0, none⟩), .int .i64 0] rfl ?_; (with_reducible refine (spec_l20Bounds.calls k g s0_0 s0_1 0 t316 t319 w0 _ ?side1 ?side2 A3.out).mono ?_); (case side1 => exact spec_l20Parts.s0 HI0.out); (case side2 => exact spec_l20Parts.s1 HB.out HI0.out); rintro e w10 ⟨v317, rfl, ho0, hi, hb, hk⟩; refine ⟨_, rfl, ?_⟩; have n0_ := Aside0.mk (Kd.R_lower ho0 (keep_size (w := w) (g := g) (row := none) (spec_l20Parts.s2 HK.out))); have n1_ := Aside0.mk (KeepBut.trans (spec_l20Parts.s2 HK.out) hk (.inl rfl)); have n2_ := Aside0.mk (hb); have n3_ := Aside0.mk (hi); clear HK; clear HB; clear HI0; have HO318 := n0_; have HK := n1_; have HB := n2_; have HI0 := n3_; clear n0_ n1_ n2_ n3_; (try clear hb); (try clear hb2); (try clear hk); (try clear hi); (try clear ho0); obtain ⟨Ao11, co11, eo11⟩ := Kd.R_slice HO318.out; subst eo11) | ((with_reducible refine gate_callee (f := 138) rfl ?_); refine gsl (some 10) rfl Try.func138 #[.slice Ao11 t316.length co11] rfl ?_; (with_reducible refine (spec_PartitionOf.calls k _ _ t316 t320 t321 _ ?side1 ?side2 A4.out).mono ?_); (case side1 => exact spec_l20Parts.s3 HO318.out); (case side2 => exact (Kd.R_reads' HO318.out).2.1); rintro e w12 ⟨v322, rfl, ho0, hb⟩; refine ⟨_, rfl, ?_⟩; have n0_ := Aside0.mk (Kd.R_below (kr HO318.out) hb); have n1_ := Aside0.mk (Kd.R_lower ho0 (keep_size (w := w) (g := g) (row := none) (spec_l20Parts.s2 HK.out))); have n2_ := Aside0.mk (IsS147.below (spec_l20Parts.s0 HI0.out) hb); have n3_ := Aside0.mk (KeepBut.trans (spec_l20Parts.s2 HK.out) (KeepBut.of_below hb g none) (.inl rfl)); have n4_ := Aside0.mk (below_step (spec_l20Parts.s1 HB.out HI0.out) hb); clear HO318; clear HI0; clear HK; clear HB; have HO318 := n0_; have HO323 := n1_; have HI0 := n2_; have HK := n3_; have HB := n4_; clear n0_ n1_ n2_ n3_ n4_; (try clear hb); (try clear hb2); (try clear hk); (try clear hi); (try clear ho0)) | ((with_reducible refine gate_callee (f := 125) rfl ?_); refine gsl (some 15) rfl Try.func125 #[.pointer (some ⟨g, 0, none⟩), .int .i64 a1] rfl ?_; (with_reducible refine (spec_l20Rd_odd.calls k g s0_0 t319 a1 true t325 w0 _ ?side1 ?side2 A5.out).mono ?_); (case side1 => exact spec_l20Parts.s0 HI0.out); (case side2 => exact spec_l20Parts.s1 HB.out HI0.out); rintro e w13 ⟨rfl, hi, hb, hk⟩; refine ⟨_, rfl, ?_⟩; have n0_ := Aside0.mk (Kd.R_mono (Kd.R_keep (IsS147.apart (show IsS147 w0 _ g s0_0 t319 from spec_l20Parts.s0 HI0.out) (kr HO318.out) (by decide)) hk (fun _ h => h.2)) (fun _ h => h.1)); have n1_ := Aside0.mk (Kd.R_mono (Kd.R_keep (IsS147.apart (show IsS147 w0 _ g s0_0 t319 from spec_l20Parts.s0 HI0.out) (kr HO323.out) (by decide)) hk (fun _ h => h.2)) (fun _ h => h.1)); have n2_ := Aside0.mk (KeepBut.trans (spec_l20Parts.s2 HK.out) hk (.inl rfl)); have n3_ := Aside0.mk (hb); have n4_ := Aside0.mk (hi); clear HO318; clear HO323; clear HK; clear HB; clear HI0; have HO318 := n0_; have HO323 := n1_; have HK := n2_; have HB := n3_; have HI0 := n4_; clear n0_ n1_ n2_ n3_ n4_; (try clear hb); (try clear hb2); (try clear hk); (try clear hi)) | ((with_reducible refine gate_callee (f := 78) rfl ?_); refine gsl (some 17) rfl Try.func78 #[.pointer (some ⟨g, 0, none⟩), .int .i64 5] rfl ?_; (with_reducible refine (spec_l20Rd_pick.calls k g s0_0 t325 5 t326 t327 w0 _ ?side1 ?side2 A7.out).mono ?_); (case side1 => exact spec_l20Parts.s0 HI0.out); (case side2 => exact spec_l20Parts.s1 HB.out HI0.out); rintro e w14 ⟨rfl, hi, hb, hk⟩; refine ⟨_, rfl, ?_⟩; have n0_ := Aside0.mk (Kd.R_mono (Kd.R_keep (IsS147.apart (show IsS147 w0 _ g s0_0 t325 from spec_l20Parts.s0 HI0.out) (kr HO318.out) (by decide)) hk (fun _ h => h.2)) (fun _ h => h.1)); have n1_ := Aside0.mk (Kd.R_mono (Kd.R_keep (IsS147.apart (show IsS147 w0 _ g s0_0 t325 from spec_l20Parts.s0 HI0.out) (kr HO323.out) (by decide)) hk (fun _ h => h.2)) (fun _ h => h.1)); have n2_ := Aside0.mk (KeepBut.trans (spec_l20Parts.s2 HK.out) hk (.inl rfl)); have n3_ := Aside0.mk (hb); have n4_ := Aside0.mk (hi); clear HO318; clear HO323; clear HK; clear HB; clear HI0; have HO318 := n0_; have HO323 := n1_; have HK := n2_; have HB := n3_; have HI0 := n4_; clear n0_ n1_ n2_ n3_ n4_; (try clear hb); (try clear hb2); (try clear hk); (try clear hi); obtain ⟨Ao15, co15, eo15⟩ := Kd.R_slice HO323.out; subst eo15; have q16 : (1 : Int) ≤ ((t320.length : Int) : Int) := of_decide_eq_true (by first | (with_reducible assumption) | assumption); obtain ⟨i016, hi016, _, hsz16, _⟩ := info_parts info83; have hcut16 := cut_from (P := Try.prog) 57 83 .i64 Try.underlying57 hi016 2 hsz16 Ao15 t320.length co15 1 (by omega) q16; have hr16 := Kd.Q_drop (k := (1 : Int).toNat) (Kd.Q_of_R HO323.out) (by omega); obtain ⟨A16, hA16⟩ : ∃ A_, A_ = (if co15 = (1 : Int).toNat then Ao15 else (Ao15 : Option Addr).map (·.add ((1 : Int).toNat * 2))) := ⟨_, rfl⟩; obtain ⟨c16, hc16⟩ : ∃ c_, c_ = co15 - (1 : Int).toNat := ⟨_, rfl⟩; have hy16 : y328.length = t320.length - (1 : Int).toNat := (by rw [Ny328.out, List.length_drop]); rw [← Ny328.out] at hr16; rw [← hy16, ← hA16, ← hc16] at hcut16; replace hr16 : Kd.Q k83 83 w14 w.heap.size (fun _ => True) (.slice A16 y328.length c16) y328 := (by rw [hA16, hc16, hy16]; exact hr16); have HE16 : Aside0 ((Value.slice A16 y328.length c16).ownBlock = (.slice Ao15 t320.length co15 : Value).ownBlock) := ⟨by rw [hA16]; split <;> (cases (Ao15 : Option Addr) <;> rfl)⟩; clear hy16 hi016 hsz16 HO323 hA16 hc16; have HO330 := Aside0.mk hr16; clear hr16; replace q16 := eq_true q16))
        go_ret
        exact ⟨_, fe, by (with_reducible repeat (first | apply Kd.Q_alloc | apply Kd.Q_drewN | apply Kd.Q_drew)); exact HO330.out, spec_l20Parts.s0 HI0.out, spec_l20Parts.s1 HB.out HI0.out, spec_l20Parts.s2 HK.out⟩
      · rw [if_neg c9] at H
        exact absurd H (by simp)
    · rw [if_neg c8] at H
      have c8b0 : (t326 == 0) = false := beq_eq_false_iff_ne.mpr c8
      have c8b1 : (t326 != 0) = true := bne_iff_ne.mpr c8
      by_cases c17 : t326 = 1
      · rw [if_pos c17] at H
        have c17b0 : (t326 == 1) = true := beq_iff_eq.mpr c17
        have c17b1 : (t326 != 1) = false := bne_eq_false_iff_eq.mpr c17
        clear c17
        by_cases c18 : t320.length < 4398046511104
        · rw [if_pos c18] at H
          have LMc18 := Aside0.mk c18
          clear c18
          obtain ⟨y331, hy331⟩ : ∃ y_ : List (S83), y_ = (t320 ++ [(⟨(⟨#[122, 122]⟩ : ByteArray), (⟨#[]⟩ : ByteArray)⟩ : S83)]) := ⟨_, rfl⟩
          replace H : (some (y331, t327)) = some (r1, r2) := by first | (rw [hy331]; with_reducible exact H) | (have H2_ := (Option.bind_some _ _).symm.trans H; rw [hy331]; with_reducible exact H2_) | (have H2_ := (Option.bind_some _ _).symm.trans H; with_reducible exact H2_) | with_reducible exact H | (rw [hy331]; exact H) | exact H
          have Ny331 := Aside0.mk hy331
          clear hy331
          simp only [Option.some.injEq, Prod.mk.injEq] at H
          obtain ⟨rfl, rfl⟩ := H
          go_enter Try.func103, Try.ntmps103
          go_wp2_with (first | ((with_reducible refine gate_callee (f := 139) rfl ?_); refine gsl (some 9) rfl Try.func139 #[.pointer (some ⟨g, 0, none⟩), .int .i64 0] rfl ?_; (with_reducible refine (spec_l20Bounds.calls k g s0_0 s0_1 0 t316 t319 w0 _ ?side1 ?side2 A3.out).mono ?_); (case side1 => exact spec_l20Parts.s0 HI0.out); (case side2 => exact spec_l20Parts.s1 HB.out HI0.out); rintro e w19 ⟨v317, rfl, ho0, hi, hb, hk⟩; refine ⟨_, rfl, ?_⟩; have n0_ := Aside0.mk (Kd.R_lower ho0 (keep_size (w := w) (g := g) (row := none) (spec_l20Parts.s2 HK.out))); have n1_ := Aside0.mk (KeepBut.trans (spec_l20Parts.s2 HK.out) hk (.inl rfl)); have n2_ := Aside0.mk (hb); have n3_ := Aside0.mk (hi); clear HK; clear HB; clear HI0; have HO318 := n0_; have HK := n1_; have HB := n2_; have HI0 := n3_; clear n0_ n1_ n2_ n3_; (try clear hb); (try clear hb2); (try clear hk); (try clear hi); (try clear ho0); obtain ⟨Ao20, co20, eo20⟩ := Kd.R_slice HO318.out; subst eo20) | ((with_reducible refine gate_callee (f := 138) rfl ?_); refine gsl (some 10) rfl Try.func138 #[.slice Ao20 t316.length co20] rfl ?_; (with_reducible refine (spec_PartitionOf.calls k _ _ t316 t320 t321 _ ?side1 ?side2 A4.out).mono ?_); (case side1 => exact spec_l20Parts.s3 HO318.out); (case side2 => exact (Kd.R_reads' HO318.out).2.1); rintro e w21 ⟨v322, rfl, ho0, hb⟩; refine ⟨_, rfl, ?_⟩; have n0_ := Aside0.mk (Kd.R_below (kr HO318.out) hb); have n1_ := Aside0.mk (Kd.R_lower ho0 (keep_size (w := w) (g := g) (row := none) (spec_l20Parts.s2 HK.out))); have n2_ := Aside0.mk (IsS147.below (spec_l20Parts.s0 HI0.out) hb); have n3_ := Aside0.mk (KeepBut.trans (spec_l20Parts.s2 HK.out) (KeepBut.of_below hb g none) (.inl rfl)); have n4_ := Aside0.mk (below_step (spec_l20Parts.s1 HB.out HI0.out) hb); clear HO318; clear HI0; clear HK; clear HB; have HO318 := n0_; have HO323 := n1_; have HI0 := n2_; have HK := n3_; have HB := n4_; clear n0_ n1_ n2_ n3_ n4_; (try clear hb); (try clear hb2); (try clear hk); (try clear hi); (try clear ho0)) | ((with_reducible refine gate_callee (f := 125) rfl ?_); refine gsl (some 15) rfl Try.func125 #[.pointer (some ⟨g, 0, none⟩), .int .i64 a1] rfl ?_; (with_reducible refine (spec_l20Rd_odd.calls k g s0_0 t319 a1 true t325 w0 _ ?side1 ?side2 A5.out).mono ?_); (case side1 => exact spec_l20Parts.s0 HI0.out); (case side2 => exact spec_l20Parts.s1 HB.out HI0.out); rintro e w22 ⟨rfl, hi, hb, hk⟩; refine ⟨_, rfl, ?_⟩; have n0_ := Aside0.mk (Kd.R_mono (Kd.R_keep (IsS147.apart (show IsS147 w0 _ g s0_0 t319 from spec_l20Parts.s0 HI0.out) (kr HO318.out) (by decide)) hk (fun _ h => h.2)) (fun _ h => h.1)); have n1_ := Aside0.mk (Kd.R_mono (Kd.R_keep (IsS147.apart (show IsS147 w0 _ g s0_0 t319 from spec_l20Parts.s0 HI0.out) (kr HO323.out) (by decide)) hk (fun _ h => h.2)) (fun _ h => h.1)); have n2_ := Aside0.mk (KeepBut.trans (spec_l20Parts.s2 HK.out) hk (.inl rfl)); have n3_ := Aside0.mk (hb); have n4_ := Aside0.mk (hi); clear HO318; clear HO323; clear HK; clear HB; clear HI0; have HO318 := n0_; have HO323 := n1_; have HK := n2_; have HB := n3_; have HI0 := n4_; clear n0_ n1_ n2_ n3_ n4_; (try clear hb); (try clear hb2); (try clear hk); (try clear hi)) | ((with_reducible refine gate_callee (f := 78) rfl ?_); refine gsl (some 17) rfl Try.func78 #[.pointer (some ⟨g, 0, none⟩), .int .i64 5] rfl ?_; (with_reducible refine (spec_l20Rd_pick.calls k g s0_0 t325 5 t326 t327 w0 _ ?side1 ?side2 A7.out).mono ?_); (case side1 => exact spec_l20Parts.s0 HI0.out); (case side2 => exact spec_l20Parts.s1 HB.out HI0.out); rintro e w23 ⟨rfl, hi, hb, hk⟩; refine ⟨_, rfl, ?_⟩; have n0_ := Aside0.mk (Kd.R_mono (Kd.R_keep (IsS147.apart (show IsS147 w0 _ g s0_0 t325 from spec_l20Parts.s0 HI0.out) (kr HO318.out) (by decide)) hk (fun _ h => h.2)) (fun _ h => h.1)); have n1_ := Aside0.mk (Kd.R_mono (Kd.R_keep (IsS147.apart (show IsS147 w0 _ g s0_0 t325 from spec_l20Parts.s0 HI0.out) (kr HO323.out) (by decide)) hk (fun _ h => h.2)) (fun _ h => h.1)); have n2_ := Aside0.mk (KeepBut.trans (spec_l20Parts.s2 HK.out) hk (.inl rfl)); have n3_ := Aside0.mk (hb); have n4_ := Aside0.mk (hi); clear HO318; clear HO323; clear HK; clear HB; clear HI0; have HO318 := n0_; have HO323 := n1_; have HK := n2_; have HB := n3_; have HI0 := n4_; clear n0_ n1_ n2_ n3_ n4_; (try clear hb); (try clear hb2); (try clear hk); (try clear hi)) | ((with_reducible refine gate_builtin (b := .append) (xs := #[.tmp 27, .tmp 29]) rfl ?_); at_builtin; refine Kd.R_append k83 w.heap.size rfl (.tmp 27) (.tmp 29) 57 83 (.agg #[(.string ⟨#[]⟩), (.string ⟨#[]⟩)]) 32 rfl Try.underlying57 info83 rfl (by decide) (by omega) v322 t320 (⟨(⟨#[122, 122]⟩ : ByteArray), (⟨#[]⟩ : ByteArray)⟩ : S83) [.string (⟨#[122, 122]⟩ : ByteArray), .string (⟨#[]⟩ : ByteArray)] (fun _ => True) (fun _ => False) rfl rfl ?aP (fun _ hk => hk.elim) ?aF ?aO (Below.refl _ _) ?aS ?aL ?_; (case aP => exact k83_mkM _ _ _ (⟨(⟨#[122, 122]⟩ : ByteArray), (⟨#[]⟩ : ByteArray)⟩ : S83)); (case aF => exact (fun _ _ => trivial)); (case aO => exact (kr HO323.out)); (case aS => exact (keep_size (w := w) (g := g) (row := none) (spec_l20Parts.s2 HK.out))); (case aL => have := LMc18.out; omega); intro v332 w24 ho hb hg hat; rw [← Ny331.out] at ho; have n0_ := Aside0.mk (IsS147.grown (spec_l20Parts.s0 HI0.out) hg (IsS147.own_ne HI0.out HO323.out (by decide))); have n1_ := Aside0.mk (Kd.R_over' (kr HO318.out) (Kd.R_typed (kr HO323.out)) (by decide) hg); have n2_ := Aside0.mk (below_weaken (spec_l20Parts.s1 HB.out HI0.out) HL.out hb); have n3_ := Aside0.mk (KeepBut.trans (spec_l20Parts.s2 HK.out) (KeepBut.of_grown hg g) (Kd.R_base2 HO323.out)); have n4_ := Aside0.mk (ho); clear HI0; clear HO318; clear HB; clear HK; clear HO323; have HI0 := n0_; have HO318 := n1_; have HB := n2_; have HK := n3_; have HO333 := n4_; clear n0_ n1_ n2_ n3_ n4_; clear ho hb hg hat))
          go_ret
          exact ⟨_, fe, Kd.Q_of_R (kr HO333.out), spec_l20Parts.s0 HI0.out, spec_l20Parts.s1 HB.out HI0.out, spec_l20Parts.s2 HK.out⟩
        · rw [if_neg c18] at H
          exact absurd H (by simp)
      · rw [if_neg c17] at H
        have c17b0 : (t326 == 1) = false := beq_eq_false_iff_ne.mpr c17
        have c17b1 : (t326 != 1) = true := bne_iff_ne.mpr c17
        by_cases c25 : t326 = 2
        · rw [if_pos c25] at H
          have c25b0 : (t326 == 2) = true := beq_iff_eq.mpr c25
          have c25b1 : (t326 != 2) = false := bne_eq_false_iff_eq.mpr c25
          clear c25
          obtain ⟨ji26, hji26⟩ : ∃ j_ : Int, (wrap64 ((t320.length : Int) - 1)) = j_ := ⟨_, rfl⟩
          replace H : (if 0 ≤ (ji26) then (if (ji26) < (t320.length : Int) then (some ((t320.set ((ji26) : Int).toNat (⟨(rd_T83 t320 (ji26)).f0, (⟨#[122, 122, 122, 122]⟩ : ByteArray)⟩ : S83)), t327)) else (none)) else (none)) = some (r1, r2) := by first | (rw [hji26] at H; exact H) | (simp only [hji26] at H ⊢; exact H)
          (try rw [hji26] at A3)
          (try rw [hji26] at A4)
          (try rw [hji26] at A5)
          (try rw [hji26] at A7)
          have hji26w : (IntKind.i64.wrap ((t320.length : Int) - 1)) = ji26 := (i64_w _).trans hji26
          by_cases c27 : 0 ≤ (ji26)
          · rw [if_pos c27] at H
            have c27b0 : decide (0 ≤ (ji26)) = true := decide_eq_true c27
            clear c27
            by_cases c28 : (ji26) < (t320.length : Int)
            · rw [if_pos c28] at H
              have c28b0 : decide ((ji26) < (t320.length : Int)) = true := decide_eq_true c28
              clear c28
              obtain ⟨y334, hy334⟩ : ∃ y_ : List (S83), y_ = (t320.set ((ji26) : Int).toNat (⟨(rd_T83 t320 (ji26)).f0, (⟨#[122, 122, 122, 122]⟩ : ByteArray)⟩ : S83)) := ⟨_, rfl⟩
              replace H : (some (y334, t327)) = some (r1, r2) := by first | (rw [hy334]; with_reducible exact H) | (have H2_ := (Option.bind_some _ _).symm.trans H; rw [hy334]; with_reducible exact H2_) | (have H2_ := (Option.bind_some _ _).symm.trans H; with_reducible exact H2_) | with_reducible exact H | (rw [hy334]; exact H) | exact H
              have Ny334 := Aside0.mk hy334
              clear hy334
              simp only [Option.some.injEq, Prod.mk.injEq] at H
              obtain ⟨rfl, rfl⟩ := H
              go_enter Try.func103, Try.ntmps103
              go_wp2_with (first | ((with_reducible refine gate_callee (f := 139) rfl ?_); refine gsl (some 9) rfl Try.func139 #[.pointer (some ⟨g, 0, none⟩), .int .i64 0] rfl ?_; (with_reducible refine (spec_l20Bounds.calls k g s0_0 s0_1 0 t316 t319 w0 _ ?side1 ?side2 A3.out).mono ?_); (case side1 => exact spec_l20Parts.s0 HI0.out); (case side2 => exact spec_l20Parts.s1 HB.out HI0.out); rintro e w30 ⟨v317, rfl, ho0, hi, hb, hk⟩; refine ⟨_, rfl, ?_⟩; have n0_ := Aside0.mk (Kd.R_lower ho0 (keep_size (w := w) (g := g) (row := none) (spec_l20Parts.s2 HK.out))); have n1_ := Aside0.mk (KeepBut.trans (spec_l20Parts.s2 HK.out) hk (.inl rfl)); have n2_ := Aside0.mk (hb); have n3_ := Aside0.mk (hi); clear HK; clear HB; clear HI0; have HO318 := n0_; have HK := n1_; have HB := n2_; have HI0 := n3_; clear n0_ n1_ n2_ n3_; (try clear hb); (try clear hb2); (try clear hk); (try clear hi); (try clear ho0); obtain ⟨Ao31, co31, eo31⟩ := Kd.R_slice HO318.out; subst eo31) | ((with_reducible refine gate_callee (f := 138) rfl ?_); refine gsl (some 10) rfl Try.func138 #[.slice Ao31 t316.length co31] rfl ?_; (with_reducible refine (spec_PartitionOf.calls k _ _ t316 t320 t321 _ ?side1 ?side2 A4.out).mono ?_); (case side1 => exact spec_l20Parts.s3 HO318.out); (case side2 => exact (Kd.R_reads' HO318.out).2.1); rintro e w32 ⟨v322, rfl, ho0, hb⟩; refine ⟨_, rfl, ?_⟩; have n0_ := Aside0.mk (Kd.R_below (kr HO318.out) hb); have n1_ := Aside0.mk (Kd.R_lower ho0 (keep_size (w := w) (g := g) (row := none) (spec_l20Parts.s2 HK.out))); have n2_ := Aside0.mk (IsS147.below (spec_l20Parts.s0 HI0.out) hb); have n3_ := Aside0.mk (KeepBut.trans (spec_l20Parts.s2 HK.out) (KeepBut.of_below hb g none) (.inl rfl)); have n4_ := Aside0.mk (below_step (spec_l20Parts.s1 HB.out HI0.out) hb); clear HO318; clear HI0; clear HK; clear HB; have HO318 := n0_; have HO323 := n1_; have HI0 := n2_; have HK := n3_; have HB := n4_; clear n0_ n1_ n2_ n3_ n4_; (try clear hb); (try clear hb2); (try clear hk); (try clear hi); (try clear ho0)) | ((with_reducible refine gate_callee (f := 125) rfl ?_); refine gsl (some 15) rfl Try.func125 #[.pointer (some ⟨g, 0, none⟩), .int .i64 a1] rfl ?_; (with_reducible refine (spec_l20Rd_odd.calls k g s0_0 t319 a1 true t325 w0 _ ?side1 ?side2 A5.out).mono ?_); (case side1 => exact spec_l20Parts.s0 HI0.out); (case side2 => exact spec_l20Parts.s1 HB.out HI0.out); rintro e w33 ⟨rfl, hi, hb, hk⟩; refine ⟨_, rfl, ?_⟩; have n0_ := Aside0.mk (Kd.R_mono (Kd.R_keep (IsS147.apart (show IsS147 w0 _ g s0_0 t319 from spec_l20Parts.s0 HI0.out) (kr HO318.out) (by decide)) hk (fun _ h => h.2)) (fun _ h => h.1)); have n1_ := Aside0.mk (Kd.R_mono (Kd.R_keep (IsS147.apart (show IsS147 w0 _ g s0_0 t319 from spec_l20Parts.s0 HI0.out) (kr HO323.out) (by decide)) hk (fun _ h => h.2)) (fun _ h => h.1)); have n2_ := Aside0.mk (KeepBut.trans (spec_l20Parts.s2 HK.out) hk (.inl rfl)); have n3_ := Aside0.mk (hb); have n4_ := Aside0.mk (hi); clear HO318; clear HO323; clear HK; clear HB; clear HI0; have HO318 := n0_; have HO323 := n1_; have HK := n2_; have HB := n3_; have HI0 := n4_; clear n0_ n1_ n2_ n3_ n4_; (try clear hb); (try clear hb2); (try clear hk); (try clear hi)) | ((with_reducible refine gate_callee (f := 78) rfl ?_); refine gsl (some 17) rfl Try.func78 #[.pointer (some ⟨g, 0, none⟩), .int .i64 5] rfl ?_; (with_reducible refine (spec_l20Rd_pick.calls k g s0_0 t325 5 t326 t327 w0 _ ?side1 ?side2 A7.out).mono ?_); (case side1 => exact spec_l20Parts.s0 HI0.out); (case side2 => exact spec_l20Parts.s1 HB.out HI0.out); rintro e w34 ⟨rfl, hi, hb, hk⟩; refine ⟨_, rfl, ?_⟩; have n0_ := Aside0.mk (Kd.R_mono (Kd.R_keep (IsS147.apart (show IsS147 w0 _ g s0_0 t325 from spec_l20Parts.s0 HI0.out) (kr HO318.out) (by decide)) hk (fun _ h => h.2)) (fun _ h => h.1)); have n1_ := Aside0.mk (Kd.R_mono (Kd.R_keep (IsS147.apart (show IsS147 w0 _ g s0_0 t325 from spec_l20Parts.s0 HI0.out) (kr HO323.out) (by decide)) hk (fun _ h => h.2)) (fun _ h => h.1)); have n2_ := Aside0.mk (KeepBut.trans (spec_l20Parts.s2 HK.out) hk (.inl rfl)); have n3_ := Aside0.mk (hb); have n4_ := Aside0.mk (hi); clear HO318; clear HO323; clear HK; clear HB; clear HI0; have HO318 := n0_; have HO323 := n1_; have HK := n2_; have HB := n3_; have HI0 := n4_; clear n0_ n1_ n2_ n3_ n4_; (try clear hb); (try clear hb2); (try clear hk); (try clear hi); obtain ⟨Ao35, co35, eo35⟩ := Kd.R_slice HO323.out; subst eo35; have p29 : 0 ≤ ((ji26) : Int) := of_decide_eq_true (by first | (with_reducible assumption) | assumption); have q29 : ((ji26) : Int) < ((t320.length : Int) : Int) := of_decide_eq_true (by first | (with_reducible assumption) | assumption); obtain ⟨go29, co29, eo29, gb29, gl29, cl29, HG29⟩ := Kd.R_form HO323.out (by omega); (first | cases eo29 | (injection eo29 with ea_ en_ ec_; (first | subst ea_ | (injection ea_ with ea_; subst ea_)); subst ec_; clear en_)); have GB29 := Aside0.mk gb29; have GG29 := Aside0.mk HG29; clear gb29 gl29 HG29; obtain ⟨ce29, hcl29, hM29, hcc29, hfr29⟩ := Kd.R_elem HO323.out z83 ((ji26) : Int) p29 q29; obtain rfl := k83_openM hM29; have hx29_0 : w34.cell? ⟨go29, ((ji26) : Int).toNat * 2, none⟩ = some (.string ((rd_T83 t320 (ji26)).f0)) := hcc29 0 _ rfl; have hx29_1 : w34.cell? ⟨go29, ((ji26) : Int).toNat * 2 + 1, none⟩ = some (.string ((rd_T83 t320 (ji26)).f1)) := hcc29 1 _ rfl; have hf29_0 : w34.frozen? ⟨go29, ((ji26) : Int).toNat * 2, none⟩ = false := hfr29 0; have hf29_1 : w34.frozen? ⟨go29, ((ji26) : Int).toNat * 2 + 1, none⟩ = false := hfr29 1; clear hcl29 hcc29 hfr29 hM29; replace p29 := eq_true p29; replace q29 := eq_true q29; have HX36 := Aside0.mk (show Kd.R k83 83 w34 w.heap.size (fun _ => True) (.slice (some ⟨go29, 0, none⟩) t320.length co35) t320 from (kr HO323.out)); obtain ⟨ce36, hcl36, hM36, hcc36, hfr36⟩ := Kd.R_elem HX36.out z83 ((ji26) : Int) (of_decide_eq_true (by first | (with_reducible assumption) | assumption)) (by have h_ : ((ji26) : Int) < ((t320.length : Int) : Int) := of_decide_eq_true (by first | (with_reducible assumption) | assumption); first | exact h_ | (have e_ := (Kd.R_reads' HO323.out).1; omega) | simpa using h_); obtain rfl := k83_openM hM36; have HP36 := Kd.R_seg HX36.out ((ji26) : Int) (of_decide_eq_true (by first | (with_reducible assumption) | assumption)) (by have h_ : ((ji26) : Int) < ((t320.length : Int) : Int) := of_decide_eq_true (by first | (with_reducible assumption) | assumption); first | exact h_ | (have e_ := (Kd.R_reads' HO323.out).1; omega) | simpa using h_) (seg := [.string (⟨#[122, 122, 122, 122]⟩ : ByteArray)]) (j := 1) hcl36 hcc36 (show 2 ≤ 2 from by decide) (x' := (⟨(rd_T83 t320 (ji26)).f0, (⟨#[122, 122, 122, 122]⟩ : ByteArray)⟩ : S83)) (k83_mkM _ _ _ (⟨(rd_T83 t320 (ji26)).f0, (⟨#[122, 122, 122, 122]⟩ : ByteArray)⟩ : S83) ) (fun _ hk => hk); have hx36_1 := hcc36 1 _ rfl; (try simp only [show (k83).sz = 2 from rfl, Nat.mul_one, Nat.add_zero] at hx36_1); have hf36_1 := hfr36 1; (try simp only [show (k83).sz = 2 from rfl, Nat.mul_one, Nat.add_zero] at hf36_1); clear hcl36 hcc36 hfr36 hM36) | ((with_reducible refine gate_store (t := 9) (p := 38) rfl ?_); refine store_event (t := 9) (p := 38) (v := ?vo_w37) (w1 := (w34.setCell ⟨go29, ((ji26) : Int).toNat * 2 + 1, none⟩ (.string (⟨#[122, 122, 122, 122]⟩ : ByteArray)))) ?hg ?ho ?hn ?hr ?_; (case ho => rfl); (case hg => rfl); (case hn => rfl); (case hr => first | (go_simp; done) | (go_simp; rfl)); intro w37 hw; have hg : w34.grownBy w37 (some go29) := (by rw [hw]; exact HP36.2); have hp_ : Kd.R k83 83 w37 w.heap.size (fun _ => True) (.slice (some ⟨go29, 0, none⟩) t320.length co35) y334 := (by rw [hw, Ny334.out]; exact HP36.1); clear HP36; have n0_ := Aside0.mk (IsS147.grown (spec_l20Parts.s0 HI0.out) hg (IsS147.own_ne HI0.out HO323.out (by decide))); have n1_ := Aside0.mk (Kd.R_over' (v := (.slice (some ⟨go29, 0, none⟩) t320.length co35)) (kr HO318.out) (Kd.R_typed HO323.out) (by decide) hg); have n2_ := Aside0.mk (hp_); have n3_ := Aside0.mk ((by rw [hw]; exact below_set (HB.out) (Nat.le_trans HL.out GB29.out) : Below w0.heap.size w0 w37)); have n4_ := Aside0.mk (KeepBut.trans (spec_l20Parts.s2 HK.out) (KeepBut.of_grown hg g) (Kd.R_base2 HO323.out)); clear HI0; clear HO318; clear HO323; clear HB; clear HK; have HI0 := n0_; have HO318 := n1_; have HO323 := n2_; have HB := n3_; have HK := n4_; clear n0_ n1_ n2_ n3_ n4_; clear hg hw hp_))
              go_ret
              exact ⟨_, by first | rfl | (simp [errW_none, errW_some] <;> rfl) | (simp only [← hji26]; first | rfl | (simp [errW_none, errW_some] <;> rfl)) | (simp [*, errW_none, errW_some] <;> rfl) | (simp only [IntKind.wrap_u8, show ∀ n_ : Int, wrap64 (n_ % 256) = n_ % 256 from fun n_ => by unfold wrap64; omega]; rfl), Kd.Q_of_R (kr HO323.out), spec_l20Parts.s0 HI0.out, spec_l20Parts.s1 HB.out HI0.out, spec_l20Parts.s2 HK.out⟩
            · rw [if_neg c28] at H
              exact absurd H (by simp)
          · rw [if_neg c27] at H
            exact absurd H (by simp)
        · rw [if_neg c25] at H
          have c25b0 : (t326 == 2) = false := beq_eq_false_iff_ne.mpr c25
          have c25b1 : (t326 != 2) = true := bne_iff_ne.mpr c25
          by_cases c38 : t326 = 3
          · rw [if_pos c38] at H
            have c38b0 : (t326 == 3) = true := beq_iff_eq.mpr c38
            have c38b1 : (t326 != 3) = false := bne_eq_false_iff_eq.mpr c38
            clear c38
            by_cases c39 : 0 < (t320.length : Int)
            · rw [if_pos c39] at H
              have c39b0 : decide (0 < (t320.length : Int)) = true := decide_eq_true c39
              have c39b1 : decide (0 < t320.length) = true := decide_eq_true (by omega)
              clear c39
              obtain ⟨y335, hy335⟩ : ∃ y_ : List (S83), y_ = (t320.set (0 : Int).toNat (⟨(⟨#[97]⟩ : ByteArray), (rd_T83 t320 0).f1⟩ : S83)) := ⟨_, rfl⟩
              replace H : (some (y335, t327)) = some (r1, r2) := by first | (rw [hy335]; with_reducible exact H) | (have H2_ := (Option.bind_some _ _).symm.trans H; rw [hy335]; with_reducible exact H2_) | (have H2_ := (Option.bind_some _ _).symm.trans H; with_reducible exact H2_) | with_reducible exact H | (rw [hy335]; exact H) | exact H
              have Ny335 := Aside0.mk hy335
              clear hy335
              simp only [Option.some.injEq, Prod.mk.injEq] at H
              obtain ⟨rfl, rfl⟩ := H
              go_enter Try.func103, Try.ntmps103
              go_wp2_with (first | ((with_reducible refine gate_callee (f := 139) rfl ?_); refine gsl (some 9) rfl Try.func139 #[.pointer (some ⟨g, 0, none⟩), .int .i64 0] rfl ?_; (with_reducible refine (spec_l20Bounds.calls k g s0_0 s0_1 0 t316 t319 w0 _ ?side1 ?side2 A3.out).mono ?_); (case side1 => exact spec_l20Parts.s0 HI0.out); (case side2 => exact spec_l20Parts.s1 HB.out HI0.out); rintro e w41 ⟨v317, rfl, ho0, hi, hb, hk⟩; refine ⟨_, rfl, ?_⟩; have n0_ := Aside0.mk (Kd.R_lower ho0 (keep_size (w := w) (g := g) (row := none) (spec_l20Parts.s2 HK.out))); have n1_ := Aside0.mk (KeepBut.trans (spec_l20Parts.s2 HK.out) hk (.inl rfl)); have n2_ := Aside0.mk (hb); have n3_ := Aside0.mk (hi); clear HK; clear HB; clear HI0; have HO318 := n0_; have HK := n1_; have HB := n2_; have HI0 := n3_; clear n0_ n1_ n2_ n3_; (try clear hb); (try clear hb2); (try clear hk); (try clear hi); (try clear ho0); obtain ⟨Ao42, co42, eo42⟩ := Kd.R_slice HO318.out; subst eo42) | ((with_reducible refine gate_callee (f := 138) rfl ?_); refine gsl (some 10) rfl Try.func138 #[.slice Ao42 t316.length co42] rfl ?_; (with_reducible refine (spec_PartitionOf.calls k _ _ t316 t320 t321 _ ?side1 ?side2 A4.out).mono ?_); (case side1 => exact spec_l20Parts.s3 HO318.out); (case side2 => exact (Kd.R_reads' HO318.out).2.1); rintro e w43 ⟨v322, rfl, ho0, hb⟩; refine ⟨_, rfl, ?_⟩; have n0_ := Aside0.mk (Kd.R_below (kr HO318.out) hb); have n1_ := Aside0.mk (Kd.R_lower ho0 (keep_size (w := w) (g := g) (row := none) (spec_l20Parts.s2 HK.out))); have n2_ := Aside0.mk (IsS147.below (spec_l20Parts.s0 HI0.out) hb); have n3_ := Aside0.mk (KeepBut.trans (spec_l20Parts.s2 HK.out) (KeepBut.of_below hb g none) (.inl rfl)); have n4_ := Aside0.mk (below_step (spec_l20Parts.s1 HB.out HI0.out) hb); clear HO318; clear HI0; clear HK; clear HB; have HO318 := n0_; have HO323 := n1_; have HI0 := n2_; have HK := n3_; have HB := n4_; clear n0_ n1_ n2_ n3_ n4_; (try clear hb); (try clear hb2); (try clear hk); (try clear hi); (try clear ho0)) | ((with_reducible refine gate_callee (f := 125) rfl ?_); refine gsl (some 15) rfl Try.func125 #[.pointer (some ⟨g, 0, none⟩), .int .i64 a1] rfl ?_; (with_reducible refine (spec_l20Rd_odd.calls k g s0_0 t319 a1 true t325 w0 _ ?side1 ?side2 A5.out).mono ?_); (case side1 => exact spec_l20Parts.s0 HI0.out); (case side2 => exact spec_l20Parts.s1 HB.out HI0.out); rintro e w44 ⟨rfl, hi, hb, hk⟩; refine ⟨_, rfl, ?_⟩; have n0_ := Aside0.mk (Kd.R_mono (Kd.R_keep (IsS147.apart (show IsS147 w0 _ g s0_0 t319 from spec_l20Parts.s0 HI0.out) (kr HO318.out) (by decide)) hk (fun _ h => h.2)) (fun _ h => h.1)); have n1_ := Aside0.mk (Kd.R_mono (Kd.R_keep (IsS147.apart (show IsS147 w0 _ g s0_0 t319 from spec_l20Parts.s0 HI0.out) (kr HO323.out) (by decide)) hk (fun _ h => h.2)) (fun _ h => h.1)); have n2_ := Aside0.mk (KeepBut.trans (spec_l20Parts.s2 HK.out) hk (.inl rfl)); have n3_ := Aside0.mk (hb); have n4_ := Aside0.mk (hi); clear HO318; clear HO323; clear HK; clear HB; clear HI0; have HO318 := n0_; have HO323 := n1_; have HK := n2_; have HB := n3_; have HI0 := n4_; clear n0_ n1_ n2_ n3_ n4_; (try clear hb); (try clear hb2); (try clear hk); (try clear hi)) | ((with_reducible refine gate_callee (f := 78) rfl ?_); refine gsl (some 17) rfl Try.func78 #[.pointer (some ⟨g, 0, none⟩), .int .i64 5] rfl ?_; (with_reducible refine (spec_l20Rd_pick.calls k g s0_0 t325 5 t326 t327 w0 _ ?side1 ?side2 A7.out).mono ?_); (case side1 => exact spec_l20Parts.s0 HI0.out); (case side2 => exact spec_l20Parts.s1 HB.out HI0.out); rintro e w45 ⟨rfl, hi, hb, hk⟩; refine ⟨_, rfl, ?_⟩; have n0_ := Aside0.mk (Kd.R_mono (Kd.R_keep (IsS147.apart (show IsS147 w0 _ g s0_0 t325 from spec_l20Parts.s0 HI0.out) (kr HO318.out) (by decide)) hk (fun _ h => h.2)) (fun _ h => h.1)); have n1_ := Aside0.mk (Kd.R_mono (Kd.R_keep (IsS147.apart (show IsS147 w0 _ g s0_0 t325 from spec_l20Parts.s0 HI0.out) (kr HO323.out) (by decide)) hk (fun _ h => h.2)) (fun _ h => h.1)); have n2_ := Aside0.mk (KeepBut.trans (spec_l20Parts.s2 HK.out) hk (.inl rfl)); have n3_ := Aside0.mk (hb); have n4_ := Aside0.mk (hi); clear HO318; clear HO323; clear HK; clear HB; clear HI0; have HO318 := n0_; have HO323 := n1_; have HK := n2_; have HB := n3_; have HI0 := n4_; clear n0_ n1_ n2_ n3_ n4_; (try clear hb); (try clear hb2); (try clear hk); (try clear hi); have p40 : 0 ≤ (0 : Int) := (by omega); have q40 : (0 : Int) < ((t320.length : Int) : Int) := of_decide_eq_true (by first | (with_reducible assumption) | assumption); have qi40 : (0 < t320.length) = True := eq_true (by omega); obtain ⟨go40, co40, eo40, gb40, gl40, cl40, HG40⟩ := Kd.R_form HO323.out (by omega); (first | cases eo40 | (injection eo40 with ea_ en_ ec_; (first | subst ea_ | (injection ea_ with ea_; subst ea_)); subst ec_; clear en_)); have GB40 := Aside0.mk gb40; have GG40 := Aside0.mk HG40; clear gb40 gl40 HG40; obtain ⟨ce40, hcl40, hM40, hcc40, hfr40⟩ := Kd.R_elem HO323.out z83 (0 : Int) p40 q40; obtain rfl := k83_openM hM40; have hx40_0 : w45.cell? ⟨go40, (0 : Int).toNat * 2, none⟩ = some (.string ((rd_T83 t320 0).f0)) := hcc40 0 _ rfl; have hx40_1 : w45.cell? ⟨go40, (0 : Int).toNat * 2 + 1, none⟩ = some (.string ((rd_T83 t320 0).f1)) := hcc40 1 _ rfl; have hf40_0 : w45.frozen? ⟨go40, (0 : Int).toNat * 2, none⟩ = false := hfr40 0; have hf40_1 : w45.frozen? ⟨go40, (0 : Int).toNat * 2 + 1, none⟩ = false := hfr40 1; clear hcl40 hcc40 hfr40 hM40; (try rw [show ((0 : Int)).toNat = 0 from rfl] at hx40_0); (try simp only [Nat.reduceMul, Nat.zero_mul, Nat.zero_add, Nat.reduceAdd] at hx40_0); (try rw [show ((0 : Int)).toNat = 0 from rfl] at hf40_0); (try simp only [Nat.reduceMul, Nat.zero_mul, Nat.zero_add, Nat.reduceAdd] at hf40_0); (try rw [show ((0 : Int)).toNat = 0 from rfl] at hx40_1); (try simp only [Nat.reduceMul, Nat.zero_mul, Nat.zero_add, Nat.reduceAdd] at hx40_1); (try rw [show ((0 : Int)).toNat = 0 from rfl] at hf40_1); (try simp only [Nat.reduceMul, Nat.zero_mul, Nat.zero_add, Nat.reduceAdd] at hf40_1); replace p40 := eq_true p40; replace q40 := eq_true q40; have HX46 := Aside0.mk (show Kd.R k83 83 w45 w.heap.size (fun _ => True) (.slice (some ⟨go40, 0, none⟩) t320.length co40) t320 from (kr HO323.out)); obtain ⟨ce46, hcl46, hM46, hcc46, hfr46⟩ := Kd.R_elem HX46.out z83 (0 : Int) (by omega) (by have h_ : (0 : Int) < ((t320.length : Int) : Int) := of_decide_eq_true (by first | (with_reducible assumption) | assumption); first | exact h_ | (have e_ := (Kd.R_reads' HO323.out).1; omega) | simpa using h_); obtain rfl := k83_openM hM46; have HP46 := Kd.R_seg HX46.out (0 : Int) (by omega) (by have h_ : (0 : Int) < ((t320.length : Int) : Int) := of_decide_eq_true (by first | (with_reducible assumption) | assumption); first | exact h_ | (have e_ := (Kd.R_reads' HO323.out).1; omega) | simpa using h_) (seg := [.string (⟨#[97]⟩ : ByteArray)]) (j := 0) hcl46 hcc46 (show 1 ≤ 2 from by decide) (x' := (⟨(⟨#[97]⟩ : ByteArray), (rd_T83 t320 0).f1⟩ : S83)) (k83_mkM _ _ _ (⟨(⟨#[97]⟩ : ByteArray), (rd_T83 t320 0).f1⟩ : S83) ) (fun _ hk => hk); have hx46_0 := hcc46 0 _ rfl; (try simp only [show (k83).sz = 2 from rfl, Nat.mul_one, Nat.add_zero] at hx46_0); (try rw [show ((0 : Int)).toNat = 0 from rfl] at hx46_0); (try simp only [Nat.reduceMul, Nat.zero_mul, Nat.zero_add, Nat.reduceAdd] at hx46_0); have hf46_0 := hfr46 0; (try simp only [show (k83).sz = 2 from rfl, Nat.mul_one, Nat.add_zero] at hf46_0); (try rw [show ((0 : Int)).toNat = 0 from rfl] at hf46_0); (try simp only [Nat.reduceMul, Nat.zero_mul, Nat.zero_add, Nat.reduceAdd] at hf46_0); clear hcl46 hcc46 hfr46 hM46) | ((with_reducible refine gate_store (t := 9) (p := 43) rfl ?_); refine store_event (t := 9) (p := 43) (v := ?vo_w47) (w1 := (w45.setCell ⟨go40, 0, none⟩ (.string (⟨#[97]⟩ : ByteArray)))) ?hg ?ho ?hn ?hr ?_; (case ho => rfl); (case hg => rfl); (case hn => rfl); (case hr => first | (go_simp; done) | (go_simp; rfl)); intro w47 hw; have hg : w45.grownBy w47 (some go40) := (by rw [hw]; exact HP46.2); have hp_ : Kd.R k83 83 w47 w.heap.size (fun _ => True) (.slice (some ⟨go40, 0, none⟩) t320.length co40) y335 := (by rw [hw, Ny335.out]; exact HP46.1); clear HP46; have n0_ := Aside0.mk (IsS147.grown (spec_l20Parts.s0 HI0.out) hg (IsS147.own_ne HI0.out HO323.out (by decide))); have n1_ := Aside0.mk (Kd.R_over' (v := (.slice (some ⟨go40, 0, none⟩) t320.length co40)) (kr HO318.out) (Kd.R_typed HO323.out) (by decide) hg); have n2_ := Aside0.mk (hp_); have n3_ := Aside0.mk ((by rw [hw]; exact below_set (HB.out) (Nat.le_trans HL.out GB40.out) : Below w0.heap.size w0 w47)); have n4_ := Aside0.mk (KeepBut.trans (spec_l20Parts.s2 HK.out) (KeepBut.of_grown hg g) (Kd.R_base2 HO323.out)); clear HI0; clear HO318; clear HO323; clear HB; clear HK; have HI0 := n0_; have HO318 := n1_; have HO323 := n2_; have HB := n3_; have HK := n4_; clear n0_ n1_ n2_ n3_ n4_; clear hg hw hp_))
              go_ret
              exact ⟨_, fe, Kd.Q_of_R (kr HO323.out), spec_l20Parts.s0 HI0.out, spec_l20Parts.s1 HB.out HI0.out, spec_l20Parts.s2 HK.out⟩
            · rw [if_neg c39] at H
              exact absurd H (by simp)
          · rw [if_neg c38] at H
            have c38b0 : (t326 == 3) = false := beq_eq_false_iff_ne.mpr c38
            have c38b1 : (t326 != 3) = true := bne_iff_ne.mpr c38
            by_cases c48 : t320.length + t320.length < 4398046511104
            · rw [if_pos c48] at H
              have LMc48 := Aside0.mk c48
              clear c48
              obtain ⟨y336, hy336⟩ : ∃ y_ : List (S83), y_ = (t320 ++ t320) := ⟨_, rfl⟩
              replace H : (some (y336, t327)) = some (r1, r2) := by first | (rw [hy336]; with_reducible exact H) | (have H2_ := (Option.bind_some _ _).symm.trans H; rw [hy336]; with_reducible exact H2_) | (have H2_ := (Option.bind_some _ _).symm.trans H; with_reducible exact H2_) | with_reducible exact H | (rw [hy336]; exact H) | exact H
              have Ny336 := Aside0.mk hy336
              clear hy336
              simp only [Option.some.injEq, Prod.mk.injEq] at H
              obtain ⟨rfl, rfl⟩ := H
              go_enter Try.func103, Try.ntmps103
              go_wp2_with (first | ((with_reducible refine gate_callee (f := 139) rfl ?_); refine gsl (some 9) rfl Try.func139 #[.pointer (some ⟨g, 0, none⟩), .int .i64 0] rfl ?_; (with_reducible refine (spec_l20Bounds.calls k g s0_0 s0_1 0 t316 t319 w0 _ ?side1 ?side2 A3.out).mono ?_); (case side1 => exact spec_l20Parts.s0 HI0.out); (case side2 => exact spec_l20Parts.s1 HB.out HI0.out); rintro e w49 ⟨v317, rfl, ho0, hi, hb, hk⟩; refine ⟨_, rfl, ?_⟩; have n0_ := Aside0.mk (Kd.R_lower ho0 (keep_size (w := w) (g := g) (row := none) (spec_l20Parts.s2 HK.out))); have n1_ := Aside0.mk (KeepBut.trans (spec_l20Parts.s2 HK.out) hk (.inl rfl)); have n2_ := Aside0.mk (hb); have n3_ := Aside0.mk (hi); clear HK; clear HB; clear HI0; have HO318 := n0_; have HK := n1_; have HB := n2_; have HI0 := n3_; clear n0_ n1_ n2_ n3_; (try clear hb); (try clear hb2); (try clear hk); (try clear hi); (try clear ho0); obtain ⟨Ao50, co50, eo50⟩ := Kd.R_slice HO318.out; subst eo50) | ((with_reducible refine gate_callee (f := 138) rfl ?_); refine gsl (some 10) rfl Try.func138 #[.slice Ao50 t316.length co50] rfl ?_; (with_reducible refine (spec_PartitionOf.calls k _ _ t316 t320 t321 _ ?side1 ?side2 A4.out).mono ?_); (case side1 => exact spec_l20Parts.s3 HO318.out); (case side2 => exact (Kd.R_reads' HO318.out).2.1); rintro e w51 ⟨v322, rfl, ho0, hb⟩; refine ⟨_, rfl, ?_⟩; have n0_ := Aside0.mk (Kd.R_below (kr HO318.out) hb); have n1_ := Aside0.mk (Kd.R_lower ho0 (keep_size (w := w) (g := g) (row := none) (spec_l20Parts.s2 HK.out))); have n2_ := Aside0.mk (IsS147.below (spec_l20Parts.s0 HI0.out) hb); have n3_ := Aside0.mk (KeepBut.trans (spec_l20Parts.s2 HK.out) (KeepBut.of_below hb g none) (.inl rfl)); have n4_ := Aside0.mk (below_step (spec_l20Parts.s1 HB.out HI0.out) hb); clear HO318; clear HI0; clear HK; clear HB; have HO318 := n0_; have HO323 := n1_; have HI0 := n2_; have HK := n3_; have HB := n4_; clear n0_ n1_ n2_ n3_ n4_; (try clear hb); (try clear hb2); (try clear hk); (try clear hi); (try clear ho0)) | ((with_reducible refine gate_callee (f := 125) rfl ?_); refine gsl (some 15) rfl Try.func125 #[.pointer (some ⟨g, 0, none⟩), .int .i64 a1] rfl ?_; (with_reducible refine (spec_l20Rd_odd.calls k g s0_0 t319 a1 true t325 w0 _ ?side1 ?side2 A5.out).mono ?_); (case side1 => exact spec_l20Parts.s0 HI0.out); (case side2 => exact spec_l20Parts.s1 HB.out HI0.out); rintro e w52 ⟨rfl, hi, hb, hk⟩; refine ⟨_, rfl, ?_⟩; have n0_ := Aside0.mk (Kd.R_mono (Kd.R_keep (IsS147.apart (show IsS147 w0 _ g s0_0 t319 from spec_l20Parts.s0 HI0.out) (kr HO318.out) (by decide)) hk (fun _ h => h.2)) (fun _ h => h.1)); have n1_ := Aside0.mk (Kd.R_mono (Kd.R_keep (IsS147.apart (show IsS147 w0 _ g s0_0 t319 from spec_l20Parts.s0 HI0.out) (kr HO323.out) (by decide)) hk (fun _ h => h.2)) (fun _ h => h.1)); have n2_ := Aside0.mk (KeepBut.trans (spec_l20Parts.s2 HK.out) hk (.inl rfl)); have n3_ := Aside0.mk (hb); have n4_ := Aside0.mk (hi); clear HO318; clear HO323; clear HK; clear HB; clear HI0; have HO318 := n0_; have HO323 := n1_; have HK := n2_; have HB := n3_; have HI0 := n4_; clear n0_ n1_ n2_ n3_ n4_; (try clear hb); (try clear hb2); (try clear hk); (try clear hi)) | ((with_reducible refine gate_callee (f := 78) rfl ?_); refine gsl (some 17) rfl Try.func78 #[.pointer (some ⟨g, 0, none⟩), .int .i64 5] rfl ?_; (with_reducible refine (spec_l20Rd_pick.calls k g s0_0 t325 5 t326 t327 w0 _ ?side1 ?side2 A7.out).mono ?_); (case side1 => exact spec_l20Parts.s0 HI0.out); (case side2 => exact spec_l20Parts.s1 HB.out HI0.out); rintro e w53 ⟨rfl, hi, hb, hk⟩; refine ⟨_, rfl, ?_⟩; have n0_ := Aside0.mk (Kd.R_mono (Kd.R_keep (IsS147.apart (show IsS147 w0 _ g s0_0 t325 from spec_l20Parts.s0 HI0.out) (kr HO318.out) (by decide)) hk (fun _ h => h.2)) (fun _ h => h.1)); have n1_ := Aside0.mk (Kd.R_mono (Kd.R_keep (IsS147.apart (show IsS147 w0 _ g s0_0 t325 from spec_l20Parts.s0 HI0.out) (kr HO323.out) (by decide)) hk (fun _ h => h.2)) (fun _ h => h.1)); have n2_ := Aside0.mk (KeepBut.trans (spec_l20Parts.s2 HK.out) hk (.inl rfl)); have n3_ := Aside0.mk (hb); have n4_ := Aside0.mk (hi); clear HO318; clear HO323; clear HK; clear HB; clear HI0; have HO318 := n0_; have HO323 := n1_; have HK := n2_; have HB := n3_; have HI0 := n4_; clear n0_ n1_ n2_ n3_ n4_; (try clear hb); (try clear hb2); (try clear hk); (try clear hi); obtain ⟨Ao55, co55, eo55⟩ := Kd.R_slice HO323.out; subst eo55) | ((with_reducible refine gate_builtin (b := .append) (xs := #[.tmp 18, .tmp 19]) rfl ?_); at_builtin; refine Kd.R_append_rows k83 w.heap.size rfl (.tmp 18) (.tmp 19) 57 83 (.agg #[(.string ⟨#[]⟩), (.string ⟨#[]⟩)]) 32 rfl Try.underlying57 info83 rfl (by decide) (by omega) (.slice Ao55 t320.length co55) t320 t320 _ _ _ (fun _ => True) (fun _ => False) rfl rfl ?aO ?aR (fun _ _ h => h) (fun _ h => h.elim) ?aF (Below.refl _ _) ?aS ?aL ?_; (case aR => exact spec_l20Parts.s3 HO323.out); (case aF => exact (fun _ _ => trivial)); (case aO => exact (kr HO323.out)); (case aS => exact (keep_size (w := w) (g := g) (row := none) (spec_l20Parts.s2 HK.out))); (case aL => have := LMc48.out; omega); intro v337 w54 ho hb hg hat; rw [← Ny336.out] at ho; have n0_ := Aside0.mk (IsS147.grown (spec_l20Parts.s0 HI0.out) hg (IsS147.own_ne HI0.out HO323.out (by decide))); have n1_ := Aside0.mk (Kd.R_over' (kr HO318.out) (Kd.R_typed (kr HO323.out)) (by decide) hg); have n2_ := Aside0.mk (below_weaken (spec_l20Parts.s1 HB.out HI0.out) HL.out hb); have n3_ := Aside0.mk (KeepBut.trans (spec_l20Parts.s2 HK.out) (KeepBut.of_grown hg g) (Kd.R_base2 HO323.out)); have n4_ := Aside0.mk (ho); clear HI0; clear HO318; clear HB; clear HK; clear HO323; have HI0 := n0_; have HO318 := n1_; have HB := n2_; have HK := n3_; have HO338 := n4_; clear n0_ n1_ n2_ n3_ n4_; clear ho hb hg hat))
              go_ret
              exact ⟨_, fe, Kd.Q_of_R (kr HO338.out), spec_l20Parts.s0 HI0.out, spec_l20Parts.s1 HB.out HI0.out, spec_l20Parts.s2 HK.out⟩
            · rw [if_neg c48] at H
              exact absurd H (by simp)
  · replace c6 := Bool.eq_false_iff.mpr c6
    subst c6
    have H1 : (some (t320, t325)) = some (r1, r2) := by rw [if_neg (show ¬ (false = true) by decide)] at H; exact H
    clear H
    have H := H1
    clear H1
    simp only [Option.some.injEq, Prod.mk.injEq] at H
    obtain ⟨rfl, rfl⟩ := H
    go_enter Try.func103, Try.ntmps103
    go_wp2_with (first | ((with_reducible refine gate_callee (f := 139) rfl ?_); refine gsl (some 9) rfl Try.func139 #[.pointer (some ⟨g, 0, none⟩), .int .i64 0] rfl ?_; (with_reducible refine (spec_l20Bounds.calls k g s0_0 s0_1 0 t316 t319 w0 _ ?side1 ?side2 A3.out).mono ?_); (case side1 => exact spec_l20Parts.s0 HI0.out); (case side2 => exact spec_l20Parts.s1 HB.out HI0.out); rintro e w56 ⟨v317, rfl, ho0, hi, hb, hk⟩; refine ⟨_, rfl, ?_⟩; have n0_ := Aside0.mk (Kd.R_lower ho0 (keep_size (w := w) (g := g) (row := none) (spec_l20Parts.s2 HK.out))); have n1_ := Aside0.mk (KeepBut.trans (spec_l20Parts.s2 HK.out) hk (.inl rfl)); have n2_ := Aside0.mk (hb); have n3_ := Aside0.mk (hi); clear HK; clear HB; clear HI0; have HO318 := n0_; have HK := n1_; have HB := n2_; have HI0 := n3_; clear n0_ n1_ n2_ n3_; (try clear hb); (try clear hb2); (try clear hk); (try clear hi); (try clear ho0); obtain ⟨Ao57, co57, eo57⟩ := Kd.R_slice HO318.out; subst eo57) | ((with_reducible refine gate_callee (f := 138) rfl ?_); refine gsl (some 10) rfl Try.func138 #[.slice Ao57 t316.length co57] rfl ?_; (with_reducible refine (spec_PartitionOf.calls k _ _ t316 t320 t321 _ ?side1 ?side2 A4.out).mono ?_); (case side1 => exact spec_l20Parts.s3 HO318.out); (case side2 => exact (Kd.R_reads' HO318.out).2.1); rintro e w58 ⟨v322, rfl, ho0, hb⟩; refine ⟨_, rfl, ?_⟩; have n0_ := Aside0.mk (Kd.R_below (kr HO318.out) hb); have n1_ := Aside0.mk (Kd.R_lower ho0 (keep_size (w := w) (g := g) (row := none) (spec_l20Parts.s2 HK.out))); have n2_ := Aside0.mk (IsS147.below (spec_l20Parts.s0 HI0.out) hb); have n3_ := Aside0.mk (KeepBut.trans (spec_l20Parts.s2 HK.out) (KeepBut.of_below hb g none) (.inl rfl)); have n4_ := Aside0.mk (below_step (spec_l20Parts.s1 HB.out HI0.out) hb); clear HO318; clear HI0; clear HK; clear HB; have HO318 := n0_; have HO323 := n1_; have HI0 := n2_; have HK := n3_; have HB := n4_; clear n0_ n1_ n2_ n3_ n4_; (try clear hb); (try clear hb2); (try clear hk); (try clear hi); (try clear ho0)) | ((with_reducible refine gate_callee (f := 125) rfl ?_); refine gsl (some 15) rfl Try.func125 #[.pointer (some ⟨g, 0, none⟩), .int .i64 a1] rfl ?_; (with_reducible refine (spec_l20Rd_odd.calls k g s0_0 t319 a1 false t325 w0 _ ?side1 ?side2 A5.out).mono ?_); (case side1 => exact spec_l20Parts.s0 HI0.out); (case side2 => exact spec_l20Parts.s1 HB.out HI0.out); rintro e w59 ⟨rfl, hi, hb, hk⟩; refine ⟨_, rfl, ?_⟩; have n0_ := Aside0.mk (Kd.R_mono (Kd.R_keep (IsS147.apart (show IsS147 w0 _ g s0_0 t319 from spec_l20Parts.s0 HI0.out) (kr HO318.out) (by decide)) hk (fun _ h => h.2)) (fun _ h => h.1)); have n1_ := Aside0.mk (Kd.R_mono (Kd.R_keep (IsS147.apart (show IsS147 w0 _ g s0_0 t319 from spec_l20Parts.s0 HI0.out) (kr HO323.out) (by decide)) hk (fun _ h => h.2)) (fun _ h => h.1)); have n2_ := Aside0.mk (KeepBut.trans (spec_l20Parts.s2 HK.out) hk (.inl rfl)); have n3_ := Aside0.mk (hb); have n4_ := Aside0.mk (hi); clear HO318; clear HO323; clear HK; clear HB; clear HI0; have HO318 := n0_; have HO323 := n1_; have HK := n2_; have HB := n3_; have HI0 := n4_; clear n0_ n1_ n2_ n3_ n4_; (try clear hb); (try clear hb2); (try clear hk); (try clear hi)))
    go_ret
    exact ⟨_, fe, Kd.Q_of_R (kr HO323.out), spec_l20Parts.s0 HI0.out, spec_l20Parts.s1 HB.out HI0.out, spec_l20Parts.s2 HK.out⟩

/-! ### spec_DrawPartDigests: function 36 -/
def spec_DrawPartDigests.f (k : Nat) (l0 : List Int) : Option ((List (S29)) × (List (S83))) := (spec_l20Open.f l0).bind fun bt339 => ((spec_l20Pairs.f k bt339.1 bt339.2 12).bind fun bt342 => ((spec_l20Parts.f k bt339.1 bt342.2 12).bind fun bt346 => (some (bt342.1, bt346.1))))
theorem spec_DrawPartDigests.mono : ∀ a0 k, LeO (spec_DrawPartDigests.f k a0) (spec_DrawPartDigests.f (k + 1) a0) := by
  intro a0 k
  unfold spec_DrawPartDigests.f
  repeat' first
      | (with_reducible exact spec_l20Pairs.mono _ _ _ _)
      | (with_reducible exact spec_l20Parts.mono _ _ _ _)
      | (with_reducible exact LeO.refl _)
      | (with_reducible exact LeO.none _)
      | (with_reducible refine LeO.ite ?_ ?_)
      | (with_reducible refine LeO.bind ?_ (fun _ => ?_))
      | exact spec_l20Pairs.mono _ _ _ _
      | exact spec_l20Parts.mono _ _ _ _
      | exact LeO.none _
      | refine LeO.ite ?_ ?_
      | refine LeO.bind ?_ (fun _ => ?_)
theorem spec_DrawPartDigests.s0 {P0 Q : Prop} (B0 : P0) (h : P0 → Q := by (intro b0_; repeat (first | (with_reducible first | exact b0_ | apply IsS147.alloc | apply IsS147.drewN | apply IsS147.drew | apply IsS147.set_1) | exact b0_))) : Q := h B0
theorem spec_DrawPartDigests.s1 {P0 P1 Q : Prop} (B0 : P0) (B1 : P1) (h : P0 → P1 → Q := by (intro b0_ b1_; repeat (first | (with_reducible first | exact b0_ | apply below_alloc | apply pw_below_drewN | apply below_drew1 | refine below_set ?_ (IsS147.ge b1_)) | exact b0_))) : Q := h B0 B1
set_option maxHeartbeats 8000000 in
set_option maxRecDepth 100000 in
theorem spec_DrawPartDigests.calls (k : Nat) (A0 : Option Addr) (c0 : Nat) (l0 : List Int) (r1 : List (S29)) (r2 : List (S83)) (w : World) (hr0 : Kd.C (Kd.int .u8) w A0 l0.length l0) (hc0 : l0.length ≤ c0) (h : spec_DrawPartDigests.f k l0 = some (r1, r2)) :
    Calls Try.prog 36 #[.slice A0 l0.length c0] w fun e w' => ∃ v0_ v1_ : Value, e = .returned (.tuple #[v0_, v1_]) ∧ Kd.R k29 29 w' w.heap.size (fun _ => True) v0_ r1 ∧ Kd.Q k83 83 w' w.heap.size (fun _ => True) v1_ r2 ∧ Below w.heap.size w w' := by
  have HR0 := Aside0.mk hr0
  have HC0 := Aside0.mk hc0
  clear hr0 hc0
  have HB := Aside0.mk (Below.refl w.heap.size w)
  have H : ((spec_l20Open.f l0).bind fun bt339 => ((spec_l20Pairs.f k bt339.1 bt339.2 12).bind fun bt342 => ((spec_l20Parts.f k bt339.1 bt342.2 12).bind fun bt346 => (some (bt342.1, bt346.1))))) = some (r1, r2) := h
  clear h
  replace H := Option.bind_eq_some_iff.mp H
  obtain ⟨⟨t339, t340⟩, A20, H⟩ := H
  replace H : ((spec_l20Pairs.f k t339 t340 12).bind fun bt342 => ((spec_l20Parts.f k t339 bt342.2 12).bind fun bt346 => (some (bt342.1, bt346.1)))) = some (r1, r2) := H
  have A2 := Aside0.mk A20
  clear A20
  replace H := Option.bind_eq_some_iff.mp H
  obtain ⟨⟨t342, t345⟩, A30, H⟩ := H
  replace H : ((spec_l20Parts.f k t339 t345 12).bind fun bt346 => (some (t342, bt346.1))) = some (r1, r2) := H
  have A3 := Aside0.mk A30
  clear A30
  replace H := Option.bind_eq_some_iff.mp H
  obtain ⟨⟨t346, t349⟩, A40, H⟩ := H
  replace H : (some (t342, t346)) = some (r1, r2) := H
  have A4 := Aside0.mk A40
  clear A40
  simp only [Option.some.injEq, Prod.mk.injEq] at H
  obtain ⟨rfl, rfl⟩ := H
  go_enter Try.func36, Try.ntmps36
  go_wp2_with (first | ((with_reducible refine gate_callee (f := 71) rfl ?_); refine gsl (some 7) rfl Try.func71 #[.slice A0 l0.length c0] rfl ?_; (with_reducible refine (spec_l20Open.calls _ _ l0 t339 t340 w _ ?side1 ?side2 ?side3 A2.out).mono ?_); (case side1 => repeat (first | (with_reducible first | exact HB.out | apply below_alloc | apply pw_below_drewN | apply below_drew1) | exact HB.out)); (case side2 => exact HR0.out); (case side3 => exact HC0.out); rintro e w5 ⟨g341, rfl, hi, hb, hb2⟩; refine ⟨_, rfl, ?_⟩; have n0_ := Aside0.mk (hb); have n1_ := Aside0.mk (hi); clear HB; have HB := n0_; have HI341 := n1_; clear n0_ n1_; (try clear hb); (try clear hb2); (try clear hk); (try clear hi)) | ((with_reducible refine gate_callee (f := 70) rfl ?_); refine gsl (some 9) rfl Try.func70 #[.pointer (some ⟨g341, 0, none⟩), .int .i64 12] rfl ?_; (with_reducible refine (spec_l20Pairs.calls k g341 t339 t340 12 t342 t345 w _ ?side1 ?side2 A3.out).mono ?_); (case side1 => exact spec_DrawPartDigests.s0 HI341.out); (case side2 => exact spec_DrawPartDigests.s1 HB.out HI341.out); rintro e w6 ⟨v343, rfl, ho0, hi, hb, hk⟩; refine ⟨_, rfl, ?_⟩; have n0_ := Aside0.mk (Kd.R_lower ho0 (below_size (spec_DrawPartDigests.s1 HB.out HI341.out))); have n1_ := Aside0.mk (hb); have n2_ := Aside0.mk (hi); clear HB; clear HI341; have HO344 := n0_; have HB := n1_; have HI341 := n2_; clear n0_ n1_ n2_; (try clear hb); (try clear hb2); (try clear hk); (try clear hi); (try clear ho0)) | ((with_reducible refine gate_callee (f := 103) rfl ?_); refine gsl (some 12) rfl Try.func103 #[.pointer (some ⟨g341, 0, none⟩), .int .i64 12] rfl ?_; (with_reducible refine (spec_l20Parts.calls k g341 t339 t345 12 t346 t349 w _ ?side1 ?side2 A4.out).mono ?_); (case side1 => exact spec_DrawPartDigests.s0 HI341.out); (case side2 => exact spec_DrawPartDigests.s1 HB.out HI341.out); rintro e w7 ⟨v347, rfl, ho0, hi, hb, hk⟩; refine ⟨_, rfl, ?_⟩; have n0_ := Aside0.mk (Kd.R_mono (Kd.R_keep (IsS147.apart (show IsS147 w _ g341 t339 t345 from spec_DrawPartDigests.s0 HI341.out) (kr HO344.out) (by decide)) hk (fun _ h => h.2)) (fun _ h => h.1)); have n1_ := Aside0.mk (Kd.Q_lower ho0 (below_size (spec_DrawPartDigests.s1 HB.out HI341.out))); have n2_ := Aside0.mk (hb); have n3_ := Aside0.mk (hi); clear HO344; clear HB; clear HI341; have HO344 := n0_; have HO348 := n1_; have HB := n2_; have HI341 := n3_; clear n0_ n1_ n2_ n3_; (try clear hb); (try clear hb2); (try clear hk); (try clear hi); (try clear ho0)))
  go_ret2
  exact ⟨_, _, fe, by (with_reducible repeat (first | apply Kd.R_alloc | apply Kd.R_drewN | apply Kd.R_drew)); exact HO344.out, by (with_reducible repeat (first | apply Kd.Q_alloc | apply Kd.Q_drewN | apply Kd.Q_drew)); exact HO348.out, spec_DrawPartDigests.s1 HB.out HI341.out⟩

/-! ### impl_lowestKey: function 143 -/
def impl_lowestKey.f (a0_0 : ByteArray) (a0_1 : ByteArray) : Option (ByteArray) := if a0_0.toList = ([] : List UInt8) then (some (⟨#[97]⟩ : ByteArray)) else (some a0_0)
set_option maxHeartbeats 8000000 in
set_option maxRecDepth 100000 in
theorem impl_lowestKey.calls (a0_0 : ByteArray) (a0_1 : ByteArray) (r : ByteArray) (w : World) (h : impl_lowestKey.f a0_0 a0_1 = some r) :
    Calls Try.prog 143 #[.agg #[.string a0_0, .string a0_1]] w fun e w' => e = .returned (.string r) ∧ Below w.heap.size w w' := by
  have hu83 := Try.underlying83
  have HB := Aside0.mk (Below.refl w.heap.size w)
  have H : (if a0_0.toList = ([] : List UInt8) then (some (⟨#[97]⟩ : ByteArray)) else (some a0_0)) = some r := h
  clear h
  by_cases c2 : a0_0.toList = ([] : List UInt8)
  · rw [if_pos c2] at H
    have c2b0 : (a0_0.toList == ([] : List UInt8)) = true := beq_iff_eq.mpr c2
    have c2b1 : (a0_0.toList != ([] : List UInt8)) = false := bne_eq_false_iff_eq.mpr c2
    clear c2
    obtain rfl := Option.some.inj H
    go_enter Try.func143, Try.ntmps143
    go_wp2_with (first | ((with_reducible refine gate_dst (N := 1) rfl ?_); refine bxe (N := 1) (cs := #[.string a0_0, .string a0_1]) (t := 83) ?_; intro gb350 hg w3 hbox hb; have BK350 := Aside0.mk (hbox); have GW350 := an2 HB hg; have GE350 := an2 HB hg; replace HB := an0 HB hb; clear hb hbox hg; obtain ⟨hcz4_0, hcz4_1, hfz4_0, hfz4_1⟩ := cl2 BK350))
    go_ret
    exact ⟨fe, bp HB.out⟩
  · rw [if_neg c2] at H
    have c2b0 : (a0_0.toList == ([] : List UInt8)) = false := beq_eq_false_iff_ne.mpr c2
    have c2b1 : (a0_0.toList != ([] : List UInt8)) = true := bne_iff_ne.mpr c2
    obtain rfl := Option.some.inj H
    go_enter Try.func143, Try.ntmps143
    go_wp2_with (first | ((with_reducible refine gate_dst (N := 1) rfl ?_); refine bxe (N := 1) (cs := #[.string a0_0, .string a0_1]) (t := 83) ?_; intro gb350 hg w5 hbox hb; have BK350 := Aside0.mk (hbox); have GW350 := an2 HB hg; have GE350 := an2 HB hg; replace HB := an0 HB hb; clear hb hbox hg; obtain ⟨hcz6_0, hcz6_1, hfz6_0, hfz6_1⟩ := cl2 BK350))
    go_ret
    exact ⟨fe, bp HB.out⟩

end Go.Proofs.Ytfeeifefmenlmaa.PFnPartDigests
