-- Written by a program of this session, in the manner of the kit's print (wip/pp.py): functions and their contracts.
import Derived.Test.YtkejaolfbejokaaPFnExactMasterValidx0
import Derived.Test.YtkejaolfbejokaaPFnExactMasterValidx5
namespace Go.Proofs.Ytkejaolfbejokaa.PFnExactMasterValid
open Go.RowKit Go.Proofs.YtkejaolfbejokaaW.PrintWords Go.Proofs.YtkejaolfbejokaaW.PrintLast Go.Proofs.YtkejaolfbejokaaW.PrintMore
attribute [local go_sem] binOp_leq_str binOp_gtr_str binOp_geq_str max2_int min2_int max_two min_two max_three min_three max_four min_four   -- for this text's walks alone
set_option linter.unusedVariables false
set_option linter.unusedSimpArgs false

/-! ### laws_toRouteS: function 94 -/
def laws_toRouteS.l0 : Nat → List (S162) → List (S129) → Int → Option ((List (S129)))
  | 0, _, _, _ => none
  | k + 1, x0, x3, x4 => if x4 < (x0.length : Int) then (if 0 ≤ x4 then ((laws_toRoute.f ((rd_T162 x0 x4).f0) ((rd_T162 x0 x4).f1.f0) ((rd_T162 x0 x4).f1.f1)).bind fun bt170 => (if x4 < (x3.length : Int) then (laws_toRouteS.l0 k x0 (x3.set (x4 : Int).toNat (⟨bt170.1, (⟨bt170.2.1, bt170.2.2⟩ : S127)⟩ : S129)) (wrap64 (x4 + 1))) else (none))) else (none)) else (some x3)
def laws_toRouteS.f (k : Nat) (l0 : List (S162)) : Option ((List (S129))) := if 0 ≤ (l0.length : Int) then (if ((l0.length : Int) : Int).toNat ≤ 7036874417766 then (laws_toRouteS.l0 k l0 (List.replicate ((l0.length : Int) : Int).toNat z129) 0) else (none)) else (none)
theorem laws_toRouteS.mono_l : ∀ k, (∀ y0 y1 y2, LeO (laws_toRouteS.l0 k y0 y1 y2) (laws_toRouteS.l0 (k + 1) y0 y1 y2))
  | 0 => fun _ _ _ r h => by simp [laws_toRouteS.l0] at h
  | k + 1 => by
    have ih0 := laws_toRouteS.mono_l k
    · intro y0 y1 y2
      unfold laws_toRouteS.l0
      repeat' first
      | (with_reducible exact ih0 _ _ _)
      | (with_reducible exact LeO.refl _)
      | (with_reducible exact LeO.none _)
      | (with_reducible refine LeO.ite ?_ ?_)
      | (with_reducible refine LeO.bind ?_ (fun _ => ?_))
      | exact ih0 _ _ _
      | exact LeO.none _
      | refine LeO.ite ?_ ?_
      | refine LeO.bind ?_ (fun _ => ?_)
theorem laws_toRouteS.mono : ∀ a0 k, LeO (laws_toRouteS.f k a0) (laws_toRouteS.f (k + 1) a0) := by
  intro a0 k
  have ih0 := laws_toRouteS.mono_l k
  unfold laws_toRouteS.f
  repeat' first
      | (with_reducible exact ih0 _ _ _)
      | (with_reducible exact LeO.refl _)
      | (with_reducible exact LeO.none _)
      | (with_reducible refine LeO.ite ?_ ?_)
      | (with_reducible refine LeO.bind ?_ (fun _ => ?_))
      | exact ih0 _ _ _
      | exact LeO.none _
      | refine LeO.ite ?_ ?_
      | refine LeO.bind ?_ (fun _ => ?_)
set_option maxHeartbeats 8000000 in
set_option maxRecDepth 100000 in
theorem laws_toRouteS.calls (k : Nat) (A0 : Option Addr) (c0 : Nat) (l0 : List (S162)) (r : List (S129)) (w : World) (hr0 : Kd.C k162 w A0 l0.length l0) (hc0 : l0.length ≤ c0) (h : laws_toRouteS.f k l0 = some r) :
    Calls Try.prog 94 #[.slice A0 l0.length c0] w fun e w' => ∃ v0_ : Value, e = .returned (v0_) ∧ Kd.R k129 129 w' w.heap.size (fun _ => True) v0_ r ∧ Below w.heap.size w w' := by
  have hu162 := Try.underlying162
  have hu129 := Try.underlying129
  have HR0 := Aside0.mk hr0
  have HC0 := Aside0.mk hc0
  clear hr0 hc0
  have HB := Aside0.mk (Below.refl w.heap.size w)
  have H : (if 0 ≤ (l0.length : Int) then (if ((l0.length : Int) : Int).toNat ≤ 7036874417766 then (laws_toRouteS.l0 k l0 (List.replicate ((l0.length : Int) : Int).toNat z129) 0) else (none)) else (none)) = some r := h
  clear h
  by_cases c2 : 0 ≤ (l0.length : Int)
  · rw [if_pos c2] at H
    have c2b0 := eq_true c2
    have c2b1 : decide (0 ≤ (l0.length : Int)) = true := decide_eq_true c2
    clear c2
    by_cases c3 : ((l0.length : Int) : Int).toNat ≤ 7036874417766
    · rw [if_pos c3] at H
      have c3b0 := eq_true c3
      have c3b1 : decide (((l0.length : Int) : Int).toNat ≤ 7036874417766) = true := decide_eq_true c3
      clear c3
      obtain ⟨y166, hy166⟩ : ∃ y_ : List (S129), y_ = (List.replicate ((l0.length : Int) : Int).toNat z129) := ⟨_, rfl⟩
      replace H : (laws_toRouteS.l0 k l0 y166 0) = some r := by first | (rw [hy166]; with_reducible exact H) | (have H2_ := (Option.bind_some _ _).symm.trans H; rw [hy166]; with_reducible exact H2_) | (have H2_ := (Option.bind_some _ _).symm.trans H; with_reducible exact H2_) | with_reducible exact H | (rw [hy166]; exact H) | exact H
      have Ny166 := Aside0.mk hy166
      clear hy166
      have H' := Aside0.mk H
      clear H
      go_enter Try.func94, Try.ntmps94
      go_wp2_with (first | ((with_reducible refine gate_dst (N := 7) rfl ?_); refine Kd.R_make k129 _ 129 rfl (N := 7) rfl 63 _ _ rfl (l0.length : Int) rfl rfl Try.underlying63 (.agg #[(.int .i64 0), (.string ⟨#[]⟩), (.string ⟨#[]⟩)]) 40 info129 rfl (by decide) (by omega) z129 (ok := fun _ => True) (okp := fun _ => True) (k129_mkM _ _ _ z129 ) (fun _ hk => hk) trivial (of_decide_eq_true (by first | (with_reducible assumption) | assumption)) (Nat.le_trans (Nat.mul_le_mul_right _ (of_decide_eq_true (by first | (with_reducible assumption) | assumption) : (l0.length : Int).toNat ≤ 7036874417766)) (by omega)) (Below.refl _ _) (Nat.le_refl _) ?_; intro v167 w4 ho5 hb hg_ hnew_; clear hg_ hnew_; (first | rw [← Ny166.out] at ho5 | (simp only [Int.reduceToNat] at ho5; rw [← Ny166.out] at ho5)); have n0_ := Aside0.mk (Kd.R_lower ho5 (below_size (bp HB.out))); have n1_ := an0 HB hb; clear HB; have HO168 := n0_; have HB := n1_; clear n0_ n1_; clear hb ho5))
      go_loopg [4] k (fun kq v4 w' => ∃ (x3_1 : List (S129)) (x4_1 : Int), v4 = .int .i64 x4_1 ∧ Aside0 (laws_toRouteS.l0 kq l0 x3_1 x4_1 = some r) ∧ Aside0 (kq ≤ k) ∧ Aside0 (Kd.R k129 129 w' w.heap.size (fun _ => True) v167 x3_1) ∧ Aside0 (Below w.heap.size w w'))
      case atStart => exact ⟨(y166), (0), (by first | rfl | (simp; done) | (simp [*]; done) | (simp [bne_nil_, beq_nil_]; done)), H', ⟨Nat.le_refl _⟩, ⟨by (with_reducible repeat (first | apply Kd.R_alloc | apply Kd.R_drewN | apply Kd.R_drew)); exact HO168.out⟩, ⟨bp HB.out⟩⟩
      case round =>
        clear H'
        try clear c2
        try clear c2b0
        try clear c2b1
        try clear p2
        try clear c3
        try clear c3b0
        try clear c3b1
        obtain ⟨x3_1, x4_1, rfl, HA, HK1, HO_3, HB⟩ := hrel
        cases gk with
        | zero => exact absurd HA.out (by simp [laws_toRouteS.l0])
        | succ k1 =>
          have H := HA.out
          clear HA
          simp only [laws_toRouteS.l0] at H
          by_cases c6 : x4_1 < (l0.length : Int)
          · rw [if_pos c6] at H
            have c6b0 : decide (x4_1 < (l0.length : Int)) = true := decide_eq_true c6
            clear c6
            by_cases c7 : 0 ≤ x4_1
            · rw [if_pos c7] at H
              have c7b0 : decide (0 ≤ x4_1) = true := decide_eq_true c7
              clear c7
              replace H := Option.bind_eq_some_iff.mp H
              obtain ⟨⟨t170, t171, t172⟩, A80, H⟩ := H
              replace H : (if x4_1 < (x3_1.length : Int) then (laws_toRouteS.l0 k1 l0 (x3_1.set (x4_1 : Int).toNat (⟨t170, (⟨t171, t172⟩ : S127)⟩ : S129)) (wrap64 (x4_1 + 1))) else (none)) = some r := H
              have A8 := Aside0.mk A80
              clear A80
              by_cases c9 : x4_1 < (x3_1.length : Int)
              · rw [if_pos c9] at H
                have c9b0 : decide (x4_1 < (x3_1.length : Int)) = true := decide_eq_true c9
                clear c9
                obtain ⟨y173, hy173⟩ : ∃ y_ : List (S129), y_ = (x3_1.set (x4_1 : Int).toNat (⟨t170, (⟨t171, t172⟩ : S127)⟩ : S129)) := ⟨_, rfl⟩
                replace H : (laws_toRouteS.l0 k1 l0 y173 (wrap64 (x4_1 + 1))) = some r := by first | (rw [hy173]; with_reducible exact H) | (have H2_ := (Option.bind_some _ _).symm.trans H; rw [hy173]; with_reducible exact H2_) | (have H2_ := (Option.bind_some _ _).symm.trans H; with_reducible exact H2_) | with_reducible exact H | (rw [hy173]; exact H) | exact H
                have Ny173 := Aside0.mk hy173
                clear hy173
                have H' := Aside0.mk H
                clear H
                have p169 : 0 ≤ (x4_1 : Int) := of_decide_eq_true (by first | (with_reducible assumption) | assumption)
                have q169 : x4_1 < (l0.length : Int) := of_decide_eq_true (by first | (with_reducible assumption) | assumption)
                obtain ⟨ad169, e169, hx169_0, hx169_1, hx169_2⟩ := at_T162 HR0.out x4_1 p169 q169
                cases e169
                replace hx169_0 := (HB.out.cell (World.block_lt_of_cell? w _ hx169_0)).trans hx169_0
                replace hx169_1 := (HB.out.cell (World.block_lt_of_cell? w _ hx169_1)).trans hx169_1
                replace hx169_2 := (HB.out.cell (World.block_lt_of_cell? w _ hx169_2)).trans hx169_2
                replace p169 := eq_true p169
                replace q169 := eq_true q169
                go_wp2_with (first | ((with_reducible refine gate_callee (f := 136) rfl ?_); refine gsl (some 20) rfl Try.func136 #[.agg #[.int .i64 ((rd_T162 l0 x4_1).f0), .string ((rd_T162 l0 x4_1).f1.f0), .string ((rd_T162 l0 x4_1).f1.f1)]] rfl ?_; (with_reducible refine (laws_toRoute.calls ((rd_T162 l0 x4_1).f0) ((rd_T162 l0 x4_1).f1.f0) ((rd_T162 l0 x4_1).f1.f1) t170 t171 t172 _ A8.out).mono ?_); rintro e w11 ⟨rfl, hb⟩; refine ⟨_, rfl, ?_⟩; have n0_ := Aside0.mk (Kd.R_below (kr (HO_3.out)) hb); have n1_ := an0 HB hb; clear HO_3; clear HB; have HO_3 := n0_; have HB := n1_; clear n0_ n1_; (try clear hb); (try clear hb2); (try clear hk); (try clear hi); have p10 : 0 ≤ (x4_1 : Int) := of_decide_eq_true (by first | (with_reducible assumption) | assumption); have q10 : (x4_1 : Int) < ((x3_1.length : Int) : Int) := of_decide_eq_true (by first | (with_reducible assumption) | assumption); obtain ⟨go10, co10, eo10, gb10, gl10, cl10, HG10⟩ := Kd.R_form HO_3.out (by omega); (first | cases eo10 | (injection eo10 with ea_ en_ ec_; (first | subst ea_ | (injection ea_ with ea_; subst ea_)); subst ec_; clear en_)); have GB10 := Aside0.mk gb10; have GG10 := Aside0.mk HG10; clear gb10 gl10 HG10; obtain ⟨ce10, hcl10, hM10, hcc10, hfr10⟩ := Kd.R_elem HO_3.out z129 (x4_1 : Int) p10 q10; obtain rfl := k129_openM hM10; have hx10_0 : w11.cell? ⟨go10, (x4_1 : Int).toNat * 3, none⟩ = some (.int .i64 ((rd_T129 x3_1 x4_1).f0)) := hcc10 0 _ rfl; have hx10_1 : w11.cell? ⟨go10, (x4_1 : Int).toNat * 3 + 1, none⟩ = some (.string ((rd_T129 x3_1 x4_1).f1.f0)) := hcc10 1 _ rfl; have hx10_2 : w11.cell? ⟨go10, (x4_1 : Int).toNat * 3 + 2, none⟩ = some (.string ((rd_T129 x3_1 x4_1).f1.f1)) := hcc10 2 _ rfl; have hf10_0 : w11.frozen? ⟨go10, (x4_1 : Int).toNat * 3, none⟩ = false := hfr10 0; have hf10_1 : w11.frozen? ⟨go10, (x4_1 : Int).toNat * 3 + 1, none⟩ = false := hfr10 1; have hf10_2 : w11.frozen? ⟨go10, (x4_1 : Int).toNat * 3 + 2, none⟩ = false := hfr10 2; clear hcl10 hcc10 hfr10 hM10; replace p10 := eq_true p10; replace q10 := eq_true q10; have HX12 := Aside0.mk (show Kd.R k129 129 w11 w.heap.size (fun _ => True) (.slice (some ⟨go10, 0, none⟩) x3_1.length co10) x3_1 from (kr (HO_3.out))); obtain ⟨ce12, hcl12, hM12, hcc12, hfr12⟩ := Kd.R_elem HX12.out z129 (x4_1 : Int) (of_decide_eq_true (by first | (with_reducible assumption) | assumption)) (by have h_ : (x4_1 : Int) < ((x3_1.length : Int) : Int) := of_decide_eq_true (by first | (with_reducible assumption) | assumption); first | exact h_ | (have e_ := (Kd.R_reads' HO_3.out).1; omega) | simpa using h_); obtain rfl := k129_openM hM12; have HP12 := Kd.R_seg HX12.out (x4_1 : Int) (of_decide_eq_true (by first | (with_reducible assumption) | assumption)) (by have h_ : (x4_1 : Int) < ((x3_1.length : Int) : Int) := of_decide_eq_true (by first | (with_reducible assumption) | assumption); first | exact h_ | (have e_ := (Kd.R_reads' HO_3.out).1; omega) | simpa using h_) (seg := [.int .i64 t170, .string t171, .string t172]) (j := 0) hcl12 hcc12 (show 3 ≤ 3 from by decide) (x' := (⟨t170, (⟨t171, t172⟩ : S127)⟩ : S129)) (k129_mkM _ _ _ (⟨t170, (⟨t171, t172⟩ : S127)⟩ : S129) ) (fun _ hk => hk); have hx12_0 := hcc12 0 _ rfl; (try simp only [show (k129).sz = 3 from rfl, Nat.mul_one, Nat.add_zero] at hx12_0); have hf12_0 := hfr12 0; (try simp only [show (k129).sz = 3 from rfl, Nat.mul_one, Nat.add_zero] at hf12_0); have hx12_1 := hcc12 1 _ rfl; (try simp only [show (k129).sz = 3 from rfl, Nat.mul_one, Nat.add_zero] at hx12_1); have hf12_1 := hfr12 1; (try simp only [show (k129).sz = 3 from rfl, Nat.mul_one, Nat.add_zero] at hf12_1); have hx12_2 := hcc12 2 _ rfl; (try simp only [show (k129).sz = 3 from rfl, Nat.mul_one, Nat.add_zero] at hx12_2); have hf12_2 := hfr12 2; (try simp only [show (k129).sz = 3 from rfl, Nat.mul_one, Nat.add_zero] at hf12_2); clear hcl12 hcc12 hfr12 hM12) | ((with_reducible refine gate_store (t := 129) (p := 21) rfl ?_); refine store_event (t := 129) (p := 21) (v := ?vo_w13) (w1 := (((w11.setCell ⟨go10, (x4_1 : Int).toNat * 3, none⟩ (.int .i64 t170)).setCell ⟨go10, (x4_1 : Int).toNat * 3 + 1, none⟩ (.string t171)).setCell ⟨go10, (x4_1 : Int).toNat * 3 + 2, none⟩ (.string t172))) ?hg ?ho ?hn ?hr ?_; (case ho => rfl); (case hg => rfl); (case hn => rfl); (case hr => first | (go_simp; done) | (go_simp; rfl)); intro w13 hw; have hg : w11.grownBy w13 (some go10) := (by rw [hw]; exact HP12.2); have hp_ : Kd.R k129 129 w13 w.heap.size (fun _ => True) (.slice (some ⟨go10, 0, none⟩) x3_1.length co10) y173 := (by rw [hw, Ny173.out]; exact HP12.1); clear HP12; have n0_ := Aside0.mk (hp_); have n1_ := Aside0.mk ((by rw [hw]; exact below_set (below_set (below_set (HB.out) GB10.out) GB10.out) GB10.out : Below w.heap.size w w13)); clear HO_3; clear HB; have HO_3 := n0_; have HB := n1_; clear n0_ n1_; clear hg hw hp_))
                go_roundg k1
                case measure => have := HK1.out; omega
                case rel => exact ⟨(y173), (wrap64 (x4_1 + 1)), (by first | rfl | (simp; done) | (simp [*]; done) | (simp [bne_nil_, beq_nil_]; done)), H', ⟨by have := HK1.out; omega⟩, ⟨by (with_reducible repeat (first | apply Kd.R_alloc | apply Kd.R_drewN | apply Kd.R_drew)); exact HO_3.out⟩, ⟨bp HB.out⟩⟩
              · rw [if_neg c9] at H
                exact absurd H (by simp)
            · rw [if_neg c7] at H
              exact absurd H (by simp)
          · rw [if_neg c6] at H
            have c6b0 : decide (x4_1 < (l0.length : Int)) = false := decide_eq_false c6
            clear c6
            obtain rfl := Option.some.inj H
            go_wp2
            go_ret
            exact ⟨_, fe, by (with_reducible repeat (first | apply Kd.R_alloc | apply Kd.R_drewN | apply Kd.R_drew)); exact HO_3.out, bp HB.out⟩
    · rw [if_neg c3] at H
      exact absurd H (by simp)
  · rw [if_neg c2] at H
    exact absurd H (by simp)

/-! ### laws_toPlan: function 95 -/
def laws_toPlan.f (a0_0 : Int) (a0_1 : Int) (a0_2 : Int) (a0_3 : ByteArray) (a0_4 : Int) (a0_5 : Int) (a0_6 : Int) : Option (Int × Int × Int × ByteArray × Int × Int × Int) := some (a0_0, a0_1, a0_2, a0_3, a0_4, a0_5, a0_6)
set_option maxHeartbeats 8000000 in
set_option maxRecDepth 100000 in
theorem laws_toPlan.calls (a0_0 : Int) (a0_1 : Int) (a0_2 : Int) (a0_3 : ByteArray) (a0_4 : Int) (a0_5 : Int) (a0_6 : Int) (r1 : Int) (r2 : Int) (r3 : Int) (r4 : ByteArray) (r5 : Int) (r6 : Int) (r7 : Int) (w : World) (h : laws_toPlan.f a0_0 a0_1 a0_2 a0_3 a0_4 a0_5 a0_6 = some (r1, r2, r3, r4, r5, r6, r7)) :
    Calls Try.prog 95 #[.agg #[.int .i64 a0_0, .int .i64 a0_1, .int .i64 a0_2, .string a0_3, .int .i64 a0_4, .int .i64 a0_5, .int .i64 a0_6]] w fun e w' => e = .returned (.agg #[.int .i64 r1, .int .i64 r2, .int .i64 r3, .string r4, .int .i64 r5, .int .i64 r6, .int .i64 r7]) ∧ Below w.heap.size w w' := by
  have hu58 := Try.underlying58
  have hu64 := Try.underlying64
  have HB := Aside0.mk (Below.refl w.heap.size w)
  have H : (some (a0_0, a0_1, a0_2, a0_3, a0_4, a0_5, a0_6)) = some (r1, r2, r3, r4, r5, r6, r7) := h
  clear h
  simp only [Option.some.injEq, Prod.mk.injEq] at H
  obtain ⟨rfl, rfl, rfl, rfl, rfl, rfl, rfl⟩ := H
  go_enter Try.func95, Try.ntmps95
  go_wp2_with (first | ((with_reducible refine gate_dst (N := 1) rfl ?_); refine bxe (N := 1) (cs := #[.int .i64 a0_0, .int .i64 a0_1, .int .i64 a0_2, .string a0_3, .int .i64 a0_4, .int .i64 a0_5, .int .i64 a0_6]) (t := 58) ?_; intro gb174 hg w2 hbox hb; have BK174 := Aside0.mk (hbox); have GW174 := an2 HB hg; have GE174 := an2 HB hg; replace HB := an0 HB hb; clear hb hbox hg) | ((with_reducible refine gate_dst (N := 2) rfl ?_); refine bxe (N := 2) (cs := #[.int .i64 0, .int .i64 0, .int .i64 0, .string (⟨#[]⟩ : ByteArray), .int .i64 0, .int .i64 0, .int .i64 0]) (t := 64) ?_; intro gb175 hg w3 hbox hb; have BK175 := Aside0.mk (hbox); have GW175 := an2 HB hg; have GE175 := an2 HB hg; have NB174_175 := an3 BK174 hg; have NB175_174 := an4 BK174 hg; replace BK174 := an1 BK174 hb; replace HB := an0 HB hb; clear hb hbox hg) | ((with_reducible refine gate_dst (N := 3) rfl ?_); refine bxe (N := 3) (cs := #[.int .i64 0, .int .i64 0, .int .i64 0, .string (⟨#[]⟩ : ByteArray), .int .i64 0, .int .i64 0, .int .i64 0]) (t := 64) ?_; intro gb176 hg w4 hbox hb; have BK176 := Aside0.mk (hbox); have GW176 := an2 HB hg; have GE176 := an2 HB hg; have NB174_176 := an3 BK174 hg; have NB176_174 := an4 BK174 hg; have NB175_176 := an3 BK175 hg; have NB176_175 := an4 BK175 hg; replace BK174 := an1 BK174 hb; replace BK175 := an1 BK175 hb; replace HB := an0 HB hb; clear hb hbox hg; have hnb5 := NB174_175.out; have hnc5 := NB175_174.out; have hnb6 := NB174_176.out; have hnc6 := NB176_174.out; obtain ⟨hcz7_0, hcz7_1, hcz7_2, hcz7_3, hcz7_4, hcz7_5, hcz7_6, hfz7_0, hfz7_1, hfz7_2, hfz7_3, hfz7_4, hfz7_5, hfz7_6⟩ := cl7 BK174; have hnb8 := NB176_175.out; have hnc8 := NB175_176.out; obtain ⟨hcz9_0, hcz9_1, hcz9_2, hcz9_3, hcz9_4, hcz9_5, hcz9_6, hfz9_0, hfz9_1, hfz9_2, hfz9_3, hfz9_4, hfz9_5, hfz9_6⟩ := cl7 BK176; obtain ⟨hcz10_0, hcz10_1, hcz10_2, hcz10_3, hcz10_4, hcz10_5, hcz10_6, hfz10_0, hfz10_1, hfz10_2, hfz10_3, hfz10_4, hfz10_5, hfz10_6⟩ := cl7 BK175))
  refine bodyPost_ret (results_cell_row rfl _ _ gb175 64 #[.int .i64 a0_0, .int .i64 a0_1, .int .i64 a0_2, .string a0_3, .int .i64 a0_4, .int .i64 a0_5, .int .i64 a0_6] (0, 0) _ rfl (by (with_reducible repeat (first | refine blk_drewN ?_ _ | refine blk_drew ?_ | refine blk_alloc ?_ _)); refine blk_put (cs := #[.int .i64 a0_0, .int .i64 a0_1, .int .i64 a0_2, .string a0_3, .int .i64 a0_4, .int .i64 a0_5, .int .i64 0]) ?_ 6 _ rfl; (with_reducible repeat (first | refine blk_drewN ?_ _ | refine blk_drew ?_ | refine blk_alloc ?_ _)); refine blk_put (cs := #[.int .i64 a0_0, .int .i64 a0_1, .int .i64 a0_2, .string a0_3, .int .i64 a0_4, .int .i64 0, .int .i64 0]) ?_ 5 _ rfl; (with_reducible repeat (first | refine blk_drewN ?_ _ | refine blk_drew ?_ | refine blk_alloc ?_ _)); refine blk_put (cs := #[.int .i64 a0_0, .int .i64 a0_1, .int .i64 a0_2, .string a0_3, .int .i64 0, .int .i64 0, .int .i64 0]) ?_ 4 _ rfl; (with_reducible repeat (first | refine blk_drewN ?_ _ | refine blk_drew ?_ | refine blk_alloc ?_ _)); refine blk_put (cs := #[.int .i64 a0_0, .int .i64 a0_1, .int .i64 a0_2, .string (⟨#[]⟩ : ByteArray), .int .i64 0, .int .i64 0, .int .i64 0]) ?_ 3 _ rfl; (with_reducible repeat (first | refine blk_drewN ?_ _ | refine blk_drew ?_ | refine blk_alloc ?_ _)); refine blk_put (cs := #[.int .i64 a0_0, .int .i64 a0_1, .int .i64 0, .string (⟨#[]⟩ : ByteArray), .int .i64 0, .int .i64 0, .int .i64 0]) ?_ 2 _ rfl; (with_reducible repeat (first | refine blk_drewN ?_ _ | refine blk_drew ?_ | refine blk_alloc ?_ _)); refine blk_put (cs := #[.int .i64 a0_0, .int .i64 0, .int .i64 0, .string (⟨#[]⟩ : ByteArray), .int .i64 0, .int .i64 0, .int .i64 0]) ?_ 1 _ rfl; (with_reducible repeat (first | refine blk_drewN ?_ _ | refine blk_drew ?_ | refine blk_alloc ?_ _)); refine blk_put (cs := #[.int .i64 0, .int .i64 0, .int .i64 0, .string (⟨#[]⟩ : ByteArray), .int .i64 0, .int .i64 0, .int .i64 0]) ?_ 0 _ rfl; (with_reducible repeat (first | refine blk_drewN ?_ _ | refine blk_drew ?_ | refine blk_alloc ?_ _)); refine blk_far ?_ NB175_176.out _; (with_reducible repeat (first | refine blk_drewN ?_ _ | refine blk_drew ?_ | refine blk_alloc ?_ _)); refine blk_far ?_ NB175_176.out _; (with_reducible repeat (first | refine blk_drewN ?_ _ | refine blk_drew ?_ | refine blk_alloc ?_ _)); refine blk_far ?_ NB175_176.out _; (with_reducible repeat (first | refine blk_drewN ?_ _ | refine blk_drew ?_ | refine blk_alloc ?_ _)); refine blk_far ?_ NB175_176.out _; (with_reducible repeat (first | refine blk_drewN ?_ _ | refine blk_drew ?_ | refine blk_alloc ?_ _)); refine blk_far ?_ NB175_176.out _; (with_reducible repeat (first | refine blk_drewN ?_ _ | refine blk_drew ?_ | refine blk_alloc ?_ _)); refine blk_far ?_ NB175_176.out _; (with_reducible repeat (first | refine blk_drewN ?_ _ | refine blk_drew ?_ | refine blk_alloc ?_ _)); refine blk_far ?_ NB175_176.out _; (with_reducible repeat (first | refine blk_drewN ?_ _ | refine blk_drew ?_ | refine blk_alloc ?_ _)); exact BK175.out) Try.underlying64 rfl (by kernel_rfl)) rfl ?_
  exact ⟨fe, bp HB.out⟩

/-! ### laws_toMaster: function 43 -/
def laws_toMaster.f (k : Nat) (l0_0 : List (S162)) (a0_1 : Int) (a0_2 : Int) (a0_3 : Int) (a0_4 : Int) (a0_5 : ByteArray) (a0_6 : Int) (a0_7 : Int) (a0_8 : Int) (a0_9 : Int) : Option ((List (S129)) × Int × Int × Int × Int × ByteArray × Int × Int × Int × Int) := (laws_toRouteS.f k l0_0).bind fun t180 => ((laws_toPlan.f a0_2 a0_3 a0_4 a0_5 a0_6 a0_7 a0_8).bind fun bt183 => (some (t180, a0_1, bt183.1, bt183.2.1, bt183.2.2.1, bt183.2.2.2.1, bt183.2.2.2.2.1, bt183.2.2.2.2.2.1, bt183.2.2.2.2.2.2, a0_9)))
theorem laws_toMaster.mono : ∀ a0 a1 a2 a3 a4 a5 a6 a7 a8 a9 k, LeO (laws_toMaster.f k a0 a1 a2 a3 a4 a5 a6 a7 a8 a9) (laws_toMaster.f (k + 1) a0 a1 a2 a3 a4 a5 a6 a7 a8 a9) := by
  intro a0 a1 a2 a3 a4 a5 a6 a7 a8 a9 k
  unfold laws_toMaster.f
  repeat' first
      | (with_reducible exact laws_toRouteS.mono _ _)
      | (with_reducible exact LeO.refl _)
      | (with_reducible exact LeO.none _)
      | (with_reducible refine LeO.ite ?_ ?_)
      | (with_reducible refine LeO.bind ?_ (fun _ => ?_))
      | exact laws_toRouteS.mono _ _
      | exact LeO.none _
      | refine LeO.ite ?_ ?_
      | refine LeO.bind ?_ (fun _ => ?_)
set_option maxHeartbeats 8000000 in
set_option maxRecDepth 100000 in
theorem laws_toMaster.calls (k : Nat) (A0_0 : Option Addr) (c0_0 : Nat) (l0_0 : List (S162)) (a0_1 : Int) (a0_2 : Int) (a0_3 : Int) (a0_4 : Int) (a0_5 : ByteArray) (a0_6 : Int) (a0_7 : Int) (a0_8 : Int) (a0_9 : Int) (r1 : List (S129)) (r2 : Int) (r3 : Int) (r4 : Int) (r5 : Int) (r6 : ByteArray) (r7 : Int) (r8 : Int) (r9 : Int) (r10 : Int) (w : World) (hr0_0 : Kd.C k162 w A0_0 l0_0.length l0_0) (hc0_0 : l0_0.length ≤ c0_0) (h : laws_toMaster.f k l0_0 a0_1 a0_2 a0_3 a0_4 a0_5 a0_6 a0_7 a0_8 a0_9 = some (r1, r2, r3, r4, r5, r6, r7, r8, r9, r10)) :
    Calls Try.prog 43 #[.agg #[.slice A0_0 l0_0.length c0_0, .int .i64 a0_1, .int .i64 a0_2, .int .i64 a0_3, .int .i64 a0_4, .string a0_5, .int .i64 a0_6, .int .i64 a0_7, .int .i64 a0_8, .int .i64 a0_9]] w fun e w' => ∃ v0_ : Value, e = .returned (.agg #[v0_, .int .i64 r2, .int .i64 r3, .int .i64 r4, .int .i64 r5, .string r6, .int .i64 r7, .int .i64 r8, .int .i64 r9, .int .i64 r10]) ∧ Kd.R k129 129 w' w.heap.size (fun _ => True) v0_ r1 ∧ Below w.heap.size w w' := by
  have hu60 := Try.underlying60
  have hu66 := Try.underlying66
  have hu58 := Try.underlying58
  have hu64 := Try.underlying64
  have HR0_0 := Aside0.mk hr0_0
  have HC0_0 := Aside0.mk hc0_0
  clear hr0_0 hc0_0
  have HB := Aside0.mk (Below.refl w.heap.size w)
  have H : ((laws_toRouteS.f k l0_0).bind fun t180 => ((laws_toPlan.f a0_2 a0_3 a0_4 a0_5 a0_6 a0_7 a0_8).bind fun bt183 => (some (t180, a0_1, bt183.1, bt183.2.1, bt183.2.2.1, bt183.2.2.2.1, bt183.2.2.2.2.1, bt183.2.2.2.2.2.1, bt183.2.2.2.2.2.2, a0_9)))) = some (r1, r2, r3, r4, r5, r6, r7, r8, r9, r10) := h
  clear h
  replace H := Option.bind_eq_some_iff.mp H
  obtain ⟨t180, A20, H⟩ := H
  replace H : ((laws_toPlan.f a0_2 a0_3 a0_4 a0_5 a0_6 a0_7 a0_8).bind fun bt183 => (some (t180, a0_1, bt183.1, bt183.2.1, bt183.2.2.1, bt183.2.2.2.1, bt183.2.2.2.2.1, bt183.2.2.2.2.2.1, bt183.2.2.2.2.2.2, a0_9))) = some (r1, r2, r3, r4, r5, r6, r7, r8, r9, r10) := H
  have A2 := Aside0.mk A20
  clear A20
  replace H := Option.bind_eq_some_iff.mp H
  obtain ⟨⟨t183, t184, t185, t186, t187, t188, t189⟩, A30, H⟩ := H
  replace H : (some (t180, a0_1, t183, t184, t185, t186, t187, t188, t189, a0_9)) = some (r1, r2, r3, r4, r5, r6, r7, r8, r9, r10) := H
  have A3 := Aside0.mk A30
  clear A30
  simp only [Option.some.injEq, Prod.mk.injEq] at H
  obtain ⟨rfl, rfl, rfl, rfl, rfl, rfl, rfl, rfl, rfl, rfl⟩ := H
  go_enter Try.func43, Try.ntmps43
  go_wp2_with (first | ((with_reducible refine gate_dst (N := 1) rfl ?_); refine bxe (N := 1) (cs := #[.slice A0_0 l0_0.length c0_0, .int .i64 a0_1, .int .i64 a0_2, .int .i64 a0_3, .int .i64 a0_4, .string a0_5, .int .i64 a0_6, .int .i64 a0_7, .int .i64 a0_8, .int .i64 a0_9]) (t := 60) ?_; intro gb177 hg w4 hbox hb; have BK177 := Aside0.mk (hbox); have GW177 := an2 HB hg; have GE177 := an2 HB hg; replace HB := an0 HB hb; clear hb hbox hg) | ((with_reducible refine gate_dst (N := 2) rfl ?_); refine bxe (N := 2) (cs := #[.slice none 0 0, .int .i64 0, .int .i64 0, .int .i64 0, .int .i64 0, .string (⟨#[]⟩ : ByteArray), .int .i64 0, .int .i64 0, .int .i64 0, .int .i64 0]) (t := 66) ?_; intro gb178 hg w5 hbox hb; have BK178 := Aside0.mk (hbox); have GW178 := an2 HB hg; have GE178 := an2 HB hg; have NB177_178 := an3 BK177 hg; have NB178_177 := an4 BK177 hg; replace BK177 := an1 BK177 hb; replace HB := an0 HB hb; clear hb hbox hg) | ((with_reducible refine gate_dst (N := 3) rfl ?_); refine bxe (N := 3) (cs := #[.slice none 0 0, .int .i64 0, .int .i64 0, .int .i64 0, .int .i64 0, .string (⟨#[]⟩ : ByteArray), .int .i64 0, .int .i64 0, .int .i64 0, .int .i64 0]) (t := 66) ?_; intro gb179 hg w6 hbox hb; have BK179 := Aside0.mk (hbox); have GW179 := an2 HB hg; have GE179 := an2 HB hg; have NB177_179 := an3 BK177 hg; have NB179_177 := an4 BK177 hg; have NB178_179 := an3 BK178 hg; have NB179_178 := an4 BK178 hg; replace BK177 := an1 BK177 hb; replace BK178 := an1 BK178 hb; replace HB := an0 HB hb; clear hb hbox hg; have hnb7 := NB177_178.out; have hnc7 := NB178_177.out; have hnb8 := NB177_179.out; have hnc8 := NB179_177.out; obtain ⟨hcz9_0, hcz9_1, hcz9_2, hcz9_3, hcz9_4, hcz9_5, hcz9_6, hcz9_7, hcz9_8, hcz9_9, hfz9_0, hfz9_1, hfz9_2, hfz9_3, hfz9_4, hfz9_5, hfz9_6, hfz9_7, hfz9_8, hfz9_9⟩ := cl10 BK177) | ((with_reducible refine gate_callee (f := 94) rfl ?_); refine gsl (some 6) rfl Try.func94 #[.slice A0_0 l0_0.length c0_0] rfl ?_; (with_reducible refine (laws_toRouteS.calls k _ _ l0_0 t180 _ ?side1 ?side2 A2.out).mono ?_); (case side1 => exact cc (Kd.C_below HR0_0.out HB.out)); (case side2 => exact HC0_0.out); rintro e w10 ⟨v181, rfl, ho0, hb⟩; refine ⟨_, rfl, ?_⟩; have n0_ := Aside0.mk (Kd.R_lower ho0 (below_size (bp HB.out))); have n1_ := an1 BK177 hb; have n2_ := an1 BK178 hb; have n3_ := an1 BK179 hb; have n4_ := an0 HB hb; clear BK177; clear BK178; clear BK179; clear HB; have HO182 := n0_; have BK177 := n1_; have BK178 := n2_; have BK179 := n3_; have HB := n4_; clear n0_ n1_ n2_ n3_ n4_; (try clear hb); (try clear hb2); (try clear hk); (try clear hi); (try clear ho0); obtain ⟨Ao11, co11, eo11⟩ := Kd.R_slice HO182.out; subst eo11; have hnb12 := NB179_178.out; have hnc12 := NB178_179.out; obtain ⟨hcz13_0, hcz13_1, hcz13_2, hcz13_3, hcz13_4, hcz13_5, hcz13_6, hcz13_7, hcz13_8, hcz13_9, hfz13_0, hfz13_1, hfz13_2, hfz13_3, hfz13_4, hfz13_5, hfz13_6, hfz13_7, hfz13_8, hfz13_9⟩ := cl10 BK179; obtain ⟨hcz14_0, hcz14_1, hcz14_2, hcz14_3, hcz14_4, hcz14_5, hcz14_6, hcz14_7, hcz14_8, hcz14_9, hfz14_0, hfz14_1, hfz14_2, hfz14_3, hfz14_4, hfz14_5, hfz14_6, hfz14_7, hfz14_8, hfz14_9⟩ := cl10 BK177) | ((with_reducible refine gate_callee (f := 95) rfl ?_); refine gsl (some 13) rfl Try.func95 #[.agg #[.int .i64 a0_2, .int .i64 a0_3, .int .i64 a0_4, .string a0_5, .int .i64 a0_6, .int .i64 a0_7, .int .i64 a0_8]] rfl ?_; (with_reducible refine (laws_toPlan.calls a0_2 a0_3 a0_4 a0_5 a0_6 a0_7 a0_8 t183 t184 t185 t186 t187 t188 t189 _ A3.out).mono ?_); rintro e w15 ⟨rfl, hb⟩; refine ⟨_, rfl, ?_⟩; have n0_ := Aside0.mk (Kd.R_below (by (with_reducible repeat (first | apply Kd.R_alloc | apply Kd.R_drewN | apply Kd.R_drew)); exact (Kd.R_mono (Kd.R_far (p := ⟨gb179, 1, none⟩) (Kd.R_far (p := ⟨gb179, 0, none⟩) (Kd.R_types HO182.out BK179.out (by decide)) (fun _ hk => hk.2) (.slice Ao11 t180.length co11)) (fun _ hk => hk.2) (.int .i64 a0_1)) (fun _ h_ => h_.1))) hb); have n1_ := Aside0.mk (blk_below (g := gb177) (o := .cells #[.slice A0_0 l0_0.length c0_0, .int .i64 a0_1, .int .i64 a0_2, .int .i64 a0_3, .int .i64 a0_4, .string a0_5, .int .i64 a0_6, .int .i64 a0_7, .int .i64 a0_8, .int .i64 a0_9] 60 (0, 0)) (by (with_reducible repeat (first | refine blk_drewN ?_ _ | refine blk_drew ?_ | refine blk_alloc ?_ _)); refine blk_far ?_ NB177_179.out _; (with_reducible repeat (first | refine blk_drewN ?_ _ | refine blk_drew ?_ | refine blk_alloc ?_ _)); refine blk_far ?_ NB177_179.out _; (with_reducible repeat (first | refine blk_drewN ?_ _ | refine blk_drew ?_ | refine blk_alloc ?_ _)); exact BK177.out) hb); have n2_ := Aside0.mk (blk_below (g := gb178) (o := .cells #[.slice none 0 0, .int .i64 0, .int .i64 0, .int .i64 0, .int .i64 0, .string (⟨#[]⟩ : ByteArray), .int .i64 0, .int .i64 0, .int .i64 0, .int .i64 0] 66 (0, 0)) (by (with_reducible repeat (first | refine blk_drewN ?_ _ | refine blk_drew ?_ | refine blk_alloc ?_ _)); refine blk_far ?_ NB178_179.out _; (with_reducible repeat (first | refine blk_drewN ?_ _ | refine blk_drew ?_ | refine blk_alloc ?_ _)); refine blk_far ?_ NB178_179.out _; (with_reducible repeat (first | refine blk_drewN ?_ _ | refine blk_drew ?_ | refine blk_alloc ?_ _)); exact BK178.out) hb); have n3_ := Aside0.mk (blk_below (g := gb179) (o := .cells #[.slice Ao11 t180.length co11, .int .i64 a0_1, .int .i64 0, .int .i64 0, .int .i64 0, .string (⟨#[]⟩ : ByteArray), .int .i64 0, .int .i64 0, .int .i64 0, .int .i64 0] 66 (0, 0)) (by (with_reducible repeat (first | refine blk_drewN ?_ _ | refine blk_drew ?_ | refine blk_alloc ?_ _)); refine blk_put (cs := #[.slice Ao11 t180.length co11, .int .i64 0, .int .i64 0, .int .i64 0, .int .i64 0, .string (⟨#[]⟩ : ByteArray), .int .i64 0, .int .i64 0, .int .i64 0, .int .i64 0]) ?_ 1 _ rfl; (with_reducible repeat (first | refine blk_drewN ?_ _ | refine blk_drew ?_ | refine blk_alloc ?_ _)); refine blk_put (cs := #[.slice none 0 0, .int .i64 0, .int .i64 0, .int .i64 0, .int .i64 0, .string (⟨#[]⟩ : ByteArray), .int .i64 0, .int .i64 0, .int .i64 0, .int .i64 0]) ?_ 0 _ rfl; (with_reducible repeat (first | refine blk_drewN ?_ _ | refine blk_drew ?_ | refine blk_alloc ?_ _)); exact BK179.out) hb); have n4_ := an0 HB hb; clear HO182; clear BK177; clear BK178; clear BK179; clear HB; have HO182 := n0_; have BK177 := n1_; have BK178 := n2_; have BK179 := n3_; have HB := n4_; clear n0_ n1_ n2_ n3_ n4_; (try clear hb); (try clear hb2); (try clear hk); (try clear hi); obtain ⟨hcz16_0, hcz16_1, hcz16_2, hcz16_3, hcz16_4, hcz16_5, hcz16_6, hcz16_7, hcz16_8, hcz16_9, hfz16_0, hfz16_1, hfz16_2, hfz16_3, hfz16_4, hfz16_5, hfz16_6, hfz16_7, hfz16_8, hfz16_9⟩ := cl10 BK179; obtain ⟨hcz17_0, hcz17_1, hcz17_2, hcz17_3, hcz17_4, hcz17_5, hcz17_6, hcz17_7, hcz17_8, hcz17_9, hfz17_0, hfz17_1, hfz17_2, hfz17_3, hfz17_4, hfz17_5, hfz17_6, hfz17_7, hfz17_8, hfz17_9⟩ := cl10 BK177; obtain ⟨hcz18_0, hcz18_1, hcz18_2, hcz18_3, hcz18_4, hcz18_5, hcz18_6, hcz18_7, hcz18_8, hcz18_9, hfz18_0, hfz18_1, hfz18_2, hfz18_3, hfz18_4, hfz18_5, hfz18_6, hfz18_7, hfz18_8, hfz18_9⟩ := cl10 BK178))
  refine bodyPost_ret (results_cell_row rfl _ _ gb178 66 #[.slice Ao11 t180.length co11, .int .i64 a0_1, .int .i64 t183, .int .i64 t184, .int .i64 t185, .string t186, .int .i64 t187, .int .i64 t188, .int .i64 t189, .int .i64 a0_9] (0, 0) _ rfl (by (with_reducible repeat (first | refine blk_drewN ?_ _ | refine blk_drew ?_ | refine blk_alloc ?_ _)); refine blk_put (cs := #[.slice Ao11 t180.length co11, .int .i64 a0_1, .int .i64 t183, .int .i64 t184, .int .i64 t185, .string t186, .int .i64 t187, .int .i64 t188, .int .i64 t189, .int .i64 0]) ?_ 9 _ rfl; (with_reducible repeat (first | refine blk_drewN ?_ _ | refine blk_drew ?_ | refine blk_alloc ?_ _)); refine blk_put (cs := #[.slice Ao11 t180.length co11, .int .i64 a0_1, .int .i64 t183, .int .i64 t184, .int .i64 t185, .string t186, .int .i64 t187, .int .i64 t188, .int .i64 0, .int .i64 0]) ?_ 8 _ rfl; (with_reducible repeat (first | refine blk_drewN ?_ _ | refine blk_drew ?_ | refine blk_alloc ?_ _)); refine blk_put (cs := #[.slice Ao11 t180.length co11, .int .i64 a0_1, .int .i64 t183, .int .i64 t184, .int .i64 t185, .string t186, .int .i64 t187, .int .i64 0, .int .i64 0, .int .i64 0]) ?_ 7 _ rfl; (with_reducible repeat (first | refine blk_drewN ?_ _ | refine blk_drew ?_ | refine blk_alloc ?_ _)); refine blk_put (cs := #[.slice Ao11 t180.length co11, .int .i64 a0_1, .int .i64 t183, .int .i64 t184, .int .i64 t185, .string t186, .int .i64 0, .int .i64 0, .int .i64 0, .int .i64 0]) ?_ 6 _ rfl; (with_reducible repeat (first | refine blk_drewN ?_ _ | refine blk_drew ?_ | refine blk_alloc ?_ _)); refine blk_put (cs := #[.slice Ao11 t180.length co11, .int .i64 a0_1, .int .i64 t183, .int .i64 t184, .int .i64 t185, .string (⟨#[]⟩ : ByteArray), .int .i64 0, .int .i64 0, .int .i64 0, .int .i64 0]) ?_ 5 _ rfl; (with_reducible repeat (first | refine blk_drewN ?_ _ | refine blk_drew ?_ | refine blk_alloc ?_ _)); refine blk_put (cs := #[.slice Ao11 t180.length co11, .int .i64 a0_1, .int .i64 t183, .int .i64 t184, .int .i64 0, .string (⟨#[]⟩ : ByteArray), .int .i64 0, .int .i64 0, .int .i64 0, .int .i64 0]) ?_ 4 _ rfl; (with_reducible repeat (first | refine blk_drewN ?_ _ | refine blk_drew ?_ | refine blk_alloc ?_ _)); refine blk_put (cs := #[.slice Ao11 t180.length co11, .int .i64 a0_1, .int .i64 t183, .int .i64 0, .int .i64 0, .string (⟨#[]⟩ : ByteArray), .int .i64 0, .int .i64 0, .int .i64 0, .int .i64 0]) ?_ 3 _ rfl; (with_reducible repeat (first | refine blk_drewN ?_ _ | refine blk_drew ?_ | refine blk_alloc ?_ _)); refine blk_put (cs := #[.slice Ao11 t180.length co11, .int .i64 a0_1, .int .i64 0, .int .i64 0, .int .i64 0, .string (⟨#[]⟩ : ByteArray), .int .i64 0, .int .i64 0, .int .i64 0, .int .i64 0]) ?_ 2 _ rfl; (with_reducible repeat (first | refine blk_drewN ?_ _ | refine blk_drew ?_ | refine blk_alloc ?_ _)); refine blk_put (cs := #[.slice Ao11 t180.length co11, .int .i64 0, .int .i64 0, .int .i64 0, .int .i64 0, .string (⟨#[]⟩ : ByteArray), .int .i64 0, .int .i64 0, .int .i64 0, .int .i64 0]) ?_ 1 _ rfl; (with_reducible repeat (first | refine blk_drewN ?_ _ | refine blk_drew ?_ | refine blk_alloc ?_ _)); refine blk_put (cs := #[.slice none 0 0, .int .i64 0, .int .i64 0, .int .i64 0, .int .i64 0, .string (⟨#[]⟩ : ByteArray), .int .i64 0, .int .i64 0, .int .i64 0, .int .i64 0]) ?_ 0 _ rfl; (with_reducible repeat (first | refine blk_drewN ?_ _ | refine blk_drew ?_ | refine blk_alloc ?_ _)); refine blk_far ?_ NB178_179.out _; (with_reducible repeat (first | refine blk_drewN ?_ _ | refine blk_drew ?_ | refine blk_alloc ?_ _)); refine blk_far ?_ NB178_179.out _; (with_reducible repeat (first | refine blk_drewN ?_ _ | refine blk_drew ?_ | refine blk_alloc ?_ _)); refine blk_far ?_ NB178_179.out _; (with_reducible repeat (first | refine blk_drewN ?_ _ | refine blk_drew ?_ | refine blk_alloc ?_ _)); refine blk_far ?_ NB178_179.out _; (with_reducible repeat (first | refine blk_drewN ?_ _ | refine blk_drew ?_ | refine blk_alloc ?_ _)); refine blk_far ?_ NB178_179.out _; (with_reducible repeat (first | refine blk_drewN ?_ _ | refine blk_drew ?_ | refine blk_alloc ?_ _)); refine blk_far ?_ NB178_179.out _; (with_reducible repeat (first | refine blk_drewN ?_ _ | refine blk_drew ?_ | refine blk_alloc ?_ _)); refine blk_far ?_ NB178_179.out _; (with_reducible repeat (first | refine blk_drewN ?_ _ | refine blk_drew ?_ | refine blk_alloc ?_ _)); refine blk_far ?_ NB178_179.out _; (with_reducible repeat (first | refine blk_drewN ?_ _ | refine blk_drew ?_ | refine blk_alloc ?_ _)); exact BK178.out) Try.underlying66 rfl (by kernel_rfl)) rfl ?_
  exact ⟨_, fe, by (with_reducible repeat (first | apply Kd.R_alloc | apply Kd.R_drewN | apply Kd.R_drew)); exact Kd.R_mono (Kd.R_far (p := ⟨gb178, 9, none⟩) (Kd.R_far (p := ⟨gb178, 8, none⟩) (Kd.R_far (p := ⟨gb178, 7, none⟩) (Kd.R_far (p := ⟨gb178, 6, none⟩) (Kd.R_far (p := ⟨gb178, 5, none⟩) (Kd.R_far (p := ⟨gb178, 4, none⟩) (Kd.R_far (p := ⟨gb178, 3, none⟩) (Kd.R_far (p := ⟨gb178, 2, none⟩) (Kd.R_far (p := ⟨gb178, 1, none⟩) (Kd.R_far (p := ⟨gb178, 0, none⟩) (Kd.R_far (p := ⟨gb179, 9, none⟩) (Kd.R_far (p := ⟨gb179, 8, none⟩) (Kd.R_far (p := ⟨gb179, 7, none⟩) (Kd.R_far (p := ⟨gb179, 6, none⟩) (Kd.R_far (p := ⟨gb179, 5, none⟩) (Kd.R_far (p := ⟨gb179, 4, none⟩) (Kd.R_far (p := ⟨gb179, 3, none⟩) (Kd.R_far (p := ⟨gb179, 2, none⟩) (Kd.R_types (Kd.R_types HO182.out BK179.out (by decide)) BK178.out (by decide)) (fun _ hk => hk.1.2) (.int .i64 t183)) (fun _ hk => hk.1.2) (.int .i64 t184)) (fun _ hk => hk.1.2) (.int .i64 t185)) (fun _ hk => hk.1.2) (.string t186)) (fun _ hk => hk.1.2) (.int .i64 t187)) (fun _ hk => hk.1.2) (.int .i64 t188)) (fun _ hk => hk.1.2) (.int .i64 t189)) (fun _ hk => hk.1.2) (.int .i64 a0_9)) (fun _ hk => hk.2) (.slice Ao11 t180.length co11)) (fun _ hk => hk.2) (.int .i64 a0_1)) (fun _ hk => hk.2) (.int .i64 t183)) (fun _ hk => hk.2) (.int .i64 t184)) (fun _ hk => hk.2) (.int .i64 t185)) (fun _ hk => hk.2) (.string t186)) (fun _ hk => hk.2) (.int .i64 t187)) (fun _ hk => hk.2) (.int .i64 t188)) (fun _ hk => hk.2) (.int .i64 t189)) (fun _ hk => hk.2) (.int .i64 a0_9)) (fun _ hk => trivial), bp HB.out⟩

/-! ### impl_lettersOnly: function 126 -/
def impl_lettersOnly.f : Nat → ByteArray → Option (Bool)
  | 0, _ => none
  | k + 1, a0 => if a0.toList = ([] : List UInt8) then (some true) else (if 0 < (a0.size : Int) then (if (bt a0 0) ≥ 97 then (if (bt a0 0) ≤ 122 then (if 1 ≤ (a0.size : Int) then ((impl_lettersOnly.f k (a0.extract 1 a0.size)).bind fun t190 => (some t190)) else (none)) else (some false)) else (some false)) else (none))
theorem impl_lettersOnly.mono_l : ∀ k, (∀ y0, LeO (impl_lettersOnly.f k y0) (impl_lettersOnly.f (k + 1) y0))
  | 0 => fun _ r h => by simp [impl_lettersOnly.f] at h
  | k + 1 => by
    have ih0 := impl_lettersOnly.mono_l k
    · intro y0
      unfold impl_lettersOnly.f
      repeat' first
      | (with_reducible exact ih0 _)
      | (with_reducible exact LeO.refl _)
      | (with_reducible exact LeO.none _)
      | (with_reducible refine LeO.ite ?_ ?_)
      | (with_reducible refine LeO.bind ?_ (fun _ => ?_))
      | exact ih0 _
      | exact LeO.none _
      | refine LeO.ite ?_ ?_
      | refine LeO.bind ?_ (fun _ => ?_)
theorem impl_lettersOnly.mono : ∀ a0 k, LeO (impl_lettersOnly.f k a0) (impl_lettersOnly.f (k + 1) a0) := by
  intro a0 k
  have ih0 := impl_lettersOnly.mono_l k
  exact ih0 a0
set_option maxHeartbeats 8000000 in
set_option maxRecDepth 100000 in
theorem impl_lettersOnly.calls (k : Nat) : ∀ (a0 : ByteArray) (r : Bool) (w : World) (h : impl_lettersOnly.f k a0 = some r),
    Calls Try.prog 126 #[.string a0] w fun e w' => e = .returned (.bool r) ∧ Drawn0 w w' := by
  induction k using Nat.strongRecOn with
  | _ k ih =>
  intro a0 r w h
  cases k with
  | zero => exact absurd h (by simp [impl_lettersOnly.f])
  | succ k =>
  simp only [impl_lettersOnly.f] at h
  have H : (if a0.toList = ([] : List UInt8) then (some true) else (if 0 < (a0.size : Int) then (if (bt a0 0) ≥ 97 then (if (bt a0 0) ≤ 122 then (if 1 ≤ (a0.size : Int) then ((impl_lettersOnly.f k (a0.extract 1 a0.size)).bind fun t190 => (some t190)) else (none)) else (some false)) else (some false)) else (none))) = some r := h
  clear h
  by_cases c2 : a0.toList = ([] : List UInt8)
  · rw [if_pos c2] at H
    have c2b0 : (a0.toList == ([] : List UInt8)) = true := beq_iff_eq.mpr c2
    have c2b1 : (a0.toList != ([] : List UInt8)) = false := bne_eq_false_iff_eq.mpr c2
    clear c2
    obtain rfl := Option.some.inj H
    go_enter Try.func126, Try.ntmps126
    go_wp2
    go_ret
    exact ⟨by first | rfl | (simp; done) | (simp [*]; done) | (simp [bne_nil_, beq_nil_]; done), by repeat (first | exact Drawn0.refl _ | apply Drawn0.step)⟩
  · rw [if_neg c2] at H
    have c2b0 : (a0.toList == ([] : List UInt8)) = false := beq_eq_false_iff_ne.mpr c2
    have c2b1 : (a0.toList != ([] : List UInt8)) = true := bne_iff_ne.mpr c2
    by_cases c3 : 0 < (a0.size : Int)
    · rw [if_pos c3] at H
      have c3b0 : decide (0 < (a0.size : Int)) = true := decide_eq_true c3
      have c3b1 : decide (0 < a0.size) = true := decide_eq_true (by omega)
      clear c3
      by_cases c5 : (bt a0 0) ≥ 97
      · rw [if_pos c5] at H
        have c5b0 : decide (97 ≤ (bt a0 0)) = true := decide_eq_true c5
        clear c5
        by_cases c7 : (bt a0 0) ≤ 122
        · rw [if_pos c7] at H
          have c7b0 : decide ((bt a0 0) ≤ 122) = true := decide_eq_true c7
          clear c7
          by_cases c8 : 1 ≤ (a0.size : Int)
          · rw [if_pos c8] at H
            have c8b0 := eq_true c8
            have c8b1 : decide (1 ≤ (a0.size : Int)) = true := decide_eq_true c8
            clear c8
            replace H := Option.bind_eq_some_iff.mp H
            obtain ⟨t190, A90, H⟩ := H
            replace H : (some t190) = some r := H
            have A9 := Aside0.mk A90
            clear A90
            obtain rfl := Option.some.inj H
            have p4 : 0 ≤ (0 : Int) := (by omega)
            have q4 : 0 < a0.size := (by have : (0 : Int) < (a0.size : Int) := of_decide_eq_true (by first | (with_reducible assumption) | assumption); omega)
            have hx4 : ∀ h : 0 < a0.size, ((a0[0]'h).toNat : Int) = bt a0 0 := bt_at a0 0
            clear p4
            have qi4 : (0 < (a0.size : Int)) = True := eq_true (of_decide_eq_true (by first | (with_reducible assumption) | assumption))
            replace q4 := eq_true q4
            have p6 : 0 ≤ (0 : Int) := (by omega)
            have q6 : 0 < a0.size := (by have : (0 : Int) < (a0.size : Int) := of_decide_eq_true (by first | (with_reducible assumption) | assumption); omega)
            have hx6 : ∀ h : 0 < a0.size, ((a0[0]'h).toNat : Int) = bt a0 0 := bt_at a0 0
            clear p6
            have qi6 : (0 < (a0.size : Int)) = True := eq_true (of_decide_eq_true (by first | (with_reducible assumption) | assumption))
            replace q6 := eq_true q6
            go_enter Try.func126, Try.ntmps126
            go_wp2_with (first | (go_at_call 126; (with_reducible refine (ih k (by omega) (a0.extract 1 a0.size) t190 _ A9.out).mono ?_); rintro e w' ⟨rfl, ⟨nd, rfl⟩⟩))
            go_ret
            exact ⟨by first | rfl | (simp; done) | (simp [*]; done) | (simp [bne_nil_, beq_nil_]; done), by repeat (first | exact Drawn0.refl _ | apply Drawn0.step)⟩
          · rw [if_neg c8] at H
            exact absurd H (by simp)
        · rw [if_neg c7] at H
          have c7b0 : decide ((bt a0 0) ≤ 122) = false := decide_eq_false c7
          clear c7
          obtain rfl := Option.some.inj H
          have p4 : 0 ≤ (0 : Int) := (by omega)
          have q4 : 0 < a0.size := (by have : (0 : Int) < (a0.size : Int) := of_decide_eq_true (by first | (with_reducible assumption) | assumption); omega)
          have hx4 : ∀ h : 0 < a0.size, ((a0[0]'h).toNat : Int) = bt a0 0 := bt_at a0 0
          clear p4
          have qi4 : (0 < (a0.size : Int)) = True := eq_true (of_decide_eq_true (by first | (with_reducible assumption) | assumption))
          replace q4 := eq_true q4
          have p6 : 0 ≤ (0 : Int) := (by omega)
          have q6 : 0 < a0.size := (by have : (0 : Int) < (a0.size : Int) := of_decide_eq_true (by first | (with_reducible assumption) | assumption); omega)
          have hx6 : ∀ h : 0 < a0.size, ((a0[0]'h).toNat : Int) = bt a0 0 := bt_at a0 0
          clear p6
          have qi6 : (0 < (a0.size : Int)) = True := eq_true (of_decide_eq_true (by first | (with_reducible assumption) | assumption))
          replace q6 := eq_true q6
          go_enter Try.func126, Try.ntmps126
          go_wp2
          go_ret
          exact ⟨by first | rfl | (simp; done) | (simp [*]; done) | (simp [bne_nil_, beq_nil_]; done), by repeat (first | exact Drawn0.refl _ | apply Drawn0.step)⟩
      · rw [if_neg c5] at H
        have c5b0 : decide (97 ≤ (bt a0 0)) = false := decide_eq_false c5
        clear c5
        obtain rfl := Option.some.inj H
        have p4 : 0 ≤ (0 : Int) := (by omega)
        have q4 : 0 < a0.size := (by have : (0 : Int) < (a0.size : Int) := of_decide_eq_true (by first | (with_reducible assumption) | assumption); omega)
        have hx4 : ∀ h : 0 < a0.size, ((a0[0]'h).toNat : Int) = bt a0 0 := bt_at a0 0
        clear p4
        have qi4 : (0 < (a0.size : Int)) = True := eq_true (of_decide_eq_true (by first | (with_reducible assumption) | assumption))
        replace q4 := eq_true q4
        go_enter Try.func126, Try.ntmps126
        go_wp2
        go_ret
        exact ⟨by first | rfl | (simp; done) | (simp [*]; done) | (simp [bne_nil_, beq_nil_]; done), by repeat (first | exact Drawn0.refl _ | apply Drawn0.step)⟩
    · rw [if_neg c3] at H
      exact absurd H (by simp)

/-! ### impl_KeyValid: function 67 -/
def impl_KeyValid.f (k : Nat) (a0 : ByteArray) : Option (Bool) := if (a0.size : Int) < 1 then (some false) else (if (a0.size : Int) > 4 then (some false) else ((impl_lettersOnly.f k a0).bind fun t191 => (some t191)))
theorem impl_KeyValid.mono : ∀ a0 k, LeO (impl_KeyValid.f k a0) (impl_KeyValid.f (k + 1) a0) := by
  intro a0 k
  unfold impl_KeyValid.f
  repeat' first
      | (with_reducible exact impl_lettersOnly.mono _ _)
      | (with_reducible exact LeO.refl _)
      | (with_reducible exact LeO.none _)
      | (with_reducible refine LeO.ite ?_ ?_)
      | (with_reducible refine LeO.bind ?_ (fun _ => ?_))
      | exact impl_lettersOnly.mono _ _
      | exact LeO.none _
      | refine LeO.ite ?_ ?_
      | refine LeO.bind ?_ (fun _ => ?_)
set_option maxHeartbeats 8000000 in
set_option maxRecDepth 100000 in
theorem impl_KeyValid.calls (k : Nat) (a0 : ByteArray) (r : Bool) (w : World) (h : impl_KeyValid.f k a0 = some r) :
    Calls Try.prog 67 #[.string a0] w fun e w' => e = .returned (.bool r) ∧ Drawn0 w w' := by
  have H : (if (a0.size : Int) < 1 then (some false) else (if (a0.size : Int) > 4 then (some false) else ((impl_lettersOnly.f k a0).bind fun t191 => (some t191)))) = some r := h
  clear h
  by_cases c2 : (a0.size : Int) < 1
  · rw [if_pos c2] at H
    have c2b0 : decide ((a0.size : Int) < 1) = true := decide_eq_true c2
    have c2b1 : decide (a0.size < 1) = true := decide_eq_true (by omega)
    clear c2
    obtain rfl := Option.some.inj H
    go_enter Try.func67, Try.ntmps67
    go_wp2
    go_ret
    exact ⟨by first | rfl | (simp; done) | (simp [*]; done) | (simp [bne_nil_, beq_nil_]; done), by repeat (first | exact Drawn0.refl _ | apply Drawn0.step)⟩
  · rw [if_neg c2] at H
    have c2b0 : decide ((a0.size : Int) < 1) = false := decide_eq_false c2
    have c2b1 : decide (a0.size < 1) = false := decide_eq_false (by omega)
    clear c2
    by_cases c3 : (a0.size : Int) > 4
    · rw [if_pos c3] at H
      have c3b0 : decide (4 < (a0.size : Int)) = true := decide_eq_true c3
      have c3b1 : decide (4 < a0.size) = true := decide_eq_true (by omega)
      clear c3
      obtain rfl := Option.some.inj H
      go_enter Try.func67, Try.ntmps67
      go_wp2
      go_ret
      exact ⟨by first | rfl | (simp; done) | (simp [*]; done) | (simp [bne_nil_, beq_nil_]; done), by repeat (first | exact Drawn0.refl _ | apply Drawn0.step)⟩
    · rw [if_neg c3] at H
      have c3b0 : decide (4 < (a0.size : Int)) = false := decide_eq_false c3
      have c3b1 : decide (4 < a0.size) = false := decide_eq_false (by omega)
      clear c3
      replace H := Option.bind_eq_some_iff.mp H
      obtain ⟨t191, A40, H⟩ := H
      replace H : (some t191) = some r := H
      have A4 := Aside0.mk A40
      clear A40
      obtain rfl := Option.some.inj H
      go_enter Try.func67, Try.ntmps67
      go_wp2_with (first | ((with_reducible refine gate_callee (f := 126) rfl ?_); refine gsl (some 12) rfl Try.func126 #[.string a0] rfl ?_; (with_reducible refine (impl_lettersOnly.calls k a0 t191 _ A4.out).mono ?_); rintro e w' ⟨rfl, ⟨nd, rfl⟩⟩; refine ⟨_, rfl, ?_⟩))
      go_ret
      exact ⟨by first | rfl | (simp; done) | (simp [*]; done) | (simp [bne_nil_, beq_nil_]; done), by repeat (first | exact Drawn0.refl _ | apply Drawn0.step)⟩

/-! ### impl_lowestKey: function 156 -/
def impl_lowestKey.f (a0_0 : ByteArray) (a0_1 : ByteArray) : Option (ByteArray) := if a0_0.toList = ([] : List UInt8) then (some (⟨#[97]⟩ : ByteArray)) else (some a0_0)
set_option maxHeartbeats 8000000 in
set_option maxRecDepth 100000 in
theorem impl_lowestKey.calls (a0_0 : ByteArray) (a0_1 : ByteArray) (r : ByteArray) (w : World) (h : impl_lowestKey.f a0_0 a0_1 = some r) :
    Calls Try.prog 156 #[.agg #[.string a0_0, .string a0_1]] w fun e w' => e = .returned (.string r) ∧ Below w.heap.size w w' := by
  have hu127 := Try.underlying127
  have HB := Aside0.mk (Below.refl w.heap.size w)
  have H : (if a0_0.toList = ([] : List UInt8) then (some (⟨#[97]⟩ : ByteArray)) else (some a0_0)) = some r := h
  clear h
  by_cases c2 : a0_0.toList = ([] : List UInt8)
  · rw [if_pos c2] at H
    have c2b0 : (a0_0.toList == ([] : List UInt8)) = true := beq_iff_eq.mpr c2
    have c2b1 : (a0_0.toList != ([] : List UInt8)) = false := bne_eq_false_iff_eq.mpr c2
    clear c2
    obtain rfl := Option.some.inj H
    go_enter Try.func156, Try.ntmps156
    go_wp2_with (first | ((with_reducible refine gate_dst (N := 1) rfl ?_); refine bxe (N := 1) (cs := #[.string a0_0, .string a0_1]) (t := 127) ?_; intro gb192 hg w3 hbox hb; have BK192 := Aside0.mk (hbox); have GW192 := an2 HB hg; have GE192 := an2 HB hg; replace HB := an0 HB hb; clear hb hbox hg; obtain ⟨hcz4_0, hcz4_1, hfz4_0, hfz4_1⟩ := cl2 BK192))
    go_ret
    exact ⟨fe, bp HB.out⟩
  · rw [if_neg c2] at H
    have c2b0 : (a0_0.toList == ([] : List UInt8)) = false := beq_eq_false_iff_ne.mpr c2
    have c2b1 : (a0_0.toList != ([] : List UInt8)) = true := bne_iff_ne.mpr c2
    obtain rfl := Option.some.inj H
    go_enter Try.func156, Try.ntmps156
    go_wp2_with (first | ((with_reducible refine gate_dst (N := 1) rfl ?_); refine bxe (N := 1) (cs := #[.string a0_0, .string a0_1]) (t := 127) ?_; intro gb192 hg w5 hbox hb; have BK192 := Aside0.mk (hbox); have GW192 := an2 HB hg; have GE192 := an2 HB hg; replace HB := an0 HB hb; clear hb hbox hg; obtain ⟨hcz6_0, hcz6_1, hfz6_0, hfz6_1⟩ := cl2 BK192))
    go_ret
    exact ⟨fe, bp HB.out⟩

end Go.Proofs.Ytkejaolfbejokaa.PFnExactMasterValid
