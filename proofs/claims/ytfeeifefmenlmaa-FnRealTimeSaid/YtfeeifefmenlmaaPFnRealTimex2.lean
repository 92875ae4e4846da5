-- Written by a program of this session, in the manner of the kit's print (wip/pp.py): functions and their contracts.
import Derived.Test.YtfeeifefmenlmaaPFnRealTimex0
import Derived.Test.YtfeeifefmenlmaaPFnRealTimex1
namespace Go.Proofs.Ytfeeifefmenlmaa.PFnRealTime
open Go.RowKit Go.Proofs.YtfeeifefmenlmaaW.PrintWords Go.Proofs.YtfeeifefmenlmaaW.PrintLast Go.Proofs.YtfeeifefmenlmaaW.PrintMore
attribute [local go_sem] binOp_leq_str binOp_gtr_str binOp_geq_str max2_int min2_int max_two min_two max_three min_three max_four min_four   -- for this text's walks alone
set_option linter.unusedVariables false
set_option linter.unusedSimpArgs false

/-! ### spec_l20Rd_odd: function 125 -/
def spec_l20Rd_odd.f (k : Nat) (s0_0 : List Int) (s0_1 : Int) (a1 : Int) : Option (Bool × Int) := if a1 > 0 then ((spec_l20Rd_pick.f k s0_0 s0_1 a1).bind fun bt119 => (some ((bt119.1 == (wrap64 (a1 - 1))), bt119.2))) else (some (false, s0_1))
theorem spec_l20Rd_odd.mono : ∀ a0 a1 a2 k, LeO (spec_l20Rd_odd.f k a0 a1 a2) (spec_l20Rd_odd.f (k + 1) a0 a1 a2) := by
  intro a0 a1 a2 k
  unfold spec_l20Rd_odd.f
  repeat' first
      | (with_reducible exact spec_l20Rd_pick.mono _ _ _ _)
      | (with_reducible exact LeO.refl _)
      | (with_reducible exact LeO.none _)
      | (with_reducible refine LeO.ite ?_ ?_)
      | (with_reducible refine LeO.bind ?_ (fun _ => ?_))
      | exact spec_l20Rd_pick.mono _ _ _ _
      | exact LeO.none _
      | refine LeO.ite ?_ ?_
      | refine LeO.bind ?_ (fun _ => ?_)
theorem spec_l20Rd_odd.s0 {P0 Q : Prop} (B0 : P0) (h : P0 → Q := by (intro b0_; repeat (first | (with_reducible first | exact b0_ | apply IsS147.alloc | apply IsS147.drewN | apply IsS147.drew | apply IsS147.set_1) | exact b0_))) : Q := h B0
theorem spec_l20Rd_odd.s1 {P0 P1 Q : Prop} (B0 : P0) (B1 : P1) (h : P0 → P1 → Q := by (intro b0_ b1_; repeat (first | (with_reducible first | exact b0_ | apply below_alloc | apply pw_below_drewN | apply below_drew1 | refine below_set ?_ (IsS147.ge b1_)) | exact b0_))) : Q := h B0 B1
theorem spec_l20Rd_odd.s2 {P0 Q : Prop} (B0 : P0) (h : P0 → Q := by (intro b0_; repeat (first | (with_reducible first | exact b0_ | apply KeepBut.set_ | apply keep_drewN | apply keep_drew | apply keep_alloc) | exact b0_))) : Q := h B0
set_option maxHeartbeats 8000000 in
set_option maxRecDepth 100000 in
theorem spec_l20Rd_odd.calls (k : Nat) (g : Nat) (s0_0 : List Int) (s0_1 : Int) (a1 : Int) (r1 : Bool) (r2 : Int) (w0 w : World) (hI : IsS147 w0 w g s0_0 s0_1) (hB : Below w0.heap.size w0 w) (h : spec_l20Rd_odd.f k s0_0 s0_1 a1 = some (r1, r2)) :
    Calls Try.prog 125 #[.pointer (some ⟨g, 0, none⟩), .int .i64 a1] w fun e w' => e = .returned (.bool r1) ∧ IsS147 w0 w' g s0_0 r2 ∧ Below w0.heap.size w0 w' ∧ KeepBut w w' g none := by
  have HI0 := Aside0.mk hI
  have HK := Aside0.mk (KeepBut.refl w g none)
  have HL := Aside0.mk hB.size
  clear hI
  have HW0 := Aside0.mk hB.size
  have HB := Aside0.mk hB
  clear hB
  have H : (if a1 > 0 then ((spec_l20Rd_pick.f k s0_0 s0_1 a1).bind fun bt119 => (some ((bt119.1 == (wrap64 (a1 - 1))), bt119.2))) else (some (false, s0_1))) = some (r1, r2) := h
  clear h
  by_cases c3 : a1 > 0
  · rw [if_pos c3] at H
    have c3b0 : decide (0 < a1) = true := decide_eq_true c3
    clear c3
    replace H := Option.bind_eq_some_iff.mp H
    obtain ⟨⟨t119, t120⟩, A40, H⟩ := H
    replace H : (some ((t119 == (wrap64 (a1 - 1))), t120)) = some (r1, r2) := H
    have A4 := Aside0.mk A40
    clear A40
    simp only [Option.some.injEq, Prod.mk.injEq] at H
    obtain ⟨rfl, rfl⟩ := H
    go_enter Try.func125, Try.ntmps125
    go_wp2_with (first | (go_at_call 78; (with_reducible refine (spec_l20Rd_pick.calls k g s0_0 s0_1 a1 t119 t120 w0 _ ?side1 ?side2 A4.out).mono ?_); (case side1 => exact spec_l20Rd_odd.s0 HI0.out); (case side2 => exact spec_l20Rd_odd.s1 HB.out HI0.out); rintro e w5 ⟨rfl, hi, hb, hk⟩; have n0_ := Aside0.mk (KeepBut.trans (spec_l20Rd_odd.s2 HK.out) hk (.inl rfl)); have n1_ := Aside0.mk (hb); have n2_ := Aside0.mk (hi); clear HK; clear HB; clear HI0; have HK := n0_; have HB := n1_; have HI0 := n2_; clear n0_ n1_ n2_; (try clear hb); (try clear hb2); (try clear hk); (try clear hi)))
    go_ret
    exact ⟨fe, spec_l20Rd_odd.s0 HI0.out, spec_l20Rd_odd.s1 HB.out HI0.out, spec_l20Rd_odd.s2 HK.out⟩
  · rw [if_neg c3] at H
    have c3b0 : decide (0 < a1) = false := decide_eq_false c3
    clear c3
    simp only [Option.some.injEq, Prod.mk.injEq] at H
    obtain ⟨rfl, rfl⟩ := H
    go_enter Try.func125, Try.ntmps125
    go_wp2
    go_ret
    exact ⟨fe, spec_l20Rd_odd.s0 HI0.out, spec_l20Rd_odd.s1 HB.out HI0.out, spec_l20Rd_odd.s2 HK.out⟩

/-! ### spec_l20Key: function 122 -/
def spec_l20Key.l0 : Nat → ByteArray → Int → List Int → Int → Option (ByteArray × Int)
  | 0, _, _, _, _ => none
  | k + 1, x5, x6, x1000, x1001 => if x6 > 0 then ((spec_l20Rd_pick.f k x1000 x1001 4).bind fun bt139 => ((some (([(wrap64 (97 + bt139.1)) % 256] : List Int) : List Int)).bind fun y141 => (if x5.size + (strOfNums y141).size ≤ 9223372036854775807 then (spec_l20Key.l0 k (x5 ++ (strOfNums y141)) (wrap64 (x6 - 1)) x1000 bt139.2) else (none)))) else (some (x5, x1001))
def spec_l20Key.f (k : Nat) (s0_0 : List Int) (s0_1 : Int) (a1 : Int) : Option (ByteArray × Int) := (spec_l20Rd_odd.f k s0_0 s0_1 a1).bind fun bt121 => (if bt121.1 = true then ((some (([(⟨#[]⟩ : ByteArray), (⟨#[65]⟩ : ByteArray), (⟨#[97, 49]⟩ : ByteArray), (⟨#[97, 98, 99, 100, 101]⟩ : ByteArray), (⟨#[98, 123]⟩ : ByteArray), (⟨#[97, 32, 98]⟩ : ByteArray)] : List ByteArray) : List ByteArray)).bind fun y123 => ((spec_l20Rd_pick.f k s0_0 bt121.2 6).bind fun bt126 => (if 0 ≤ bt126.1 then (if bt126.1 < (y123.length : Int) then (some (rdOf ByteArray.empty y123 bt126.1, bt126.2)) else (none)) else (none)))) else ((spec_l20Rd_pick.f k s0_0 bt121.2 12).bind fun bt129 => (if bt129.1 = 11 then ((some (([(⟨#[122, 122, 122, 122]⟩ : ByteArray), (⟨#[122, 122, 122]⟩ : ByteArray), (⟨#[97, 122, 122, 122]⟩ : ByteArray), (⟨#[122]⟩ : ByteArray), (⟨#[97, 97, 97, 97]⟩ : ByteArray)] : List ByteArray) : List ByteArray)).bind fun y131 => ((spec_l20Rd_pick.f k s0_0 bt129.2 5).bind fun bt134 => (if 0 ≤ bt134.1 then (if bt134.1 < (y131.length : Int) then (some (rdOf ByteArray.empty y131 bt134.1, bt134.2)) else (none)) else (none)))) else ((spec_l20Rd_pick.f k s0_0 bt129.2 2).bind fun bt137 => (spec_l20Key.l0 k (⟨#[]⟩ : ByteArray) (wrap64 (1 + bt137.1)) s0_0 bt137.2)))))
theorem spec_l20Key.mono_l : ∀ k, (∀ y0 y1 y2 y3, LeO (spec_l20Key.l0 k y0 y1 y2 y3) (spec_l20Key.l0 (k + 1) y0 y1 y2 y3))
  | 0 => fun _ _ _ _ r h => by simp [spec_l20Key.l0] at h
  | k + 1 => by
    have ih0 := spec_l20Key.mono_l k
    · intro y0 y1 y2 y3
      unfold spec_l20Key.l0
      repeat' first
      | (with_reducible exact ih0 _ _ _ _)
      | (with_reducible exact spec_l20Rd_odd.mono _ _ _ _)
      | (with_reducible exact spec_l20Rd_pick.mono _ _ _ _)
      | (with_reducible exact LeO.refl _)
      | (with_reducible exact LeO.none _)
      | (with_reducible refine LeO.ite ?_ ?_)
      | (with_reducible refine LeO.bind ?_ (fun _ => ?_))
      | exact ih0 _ _ _ _
      | exact spec_l20Rd_odd.mono _ _ _ _
      | exact spec_l20Rd_pick.mono _ _ _ _
      | exact LeO.none _
      | refine LeO.ite ?_ ?_
      | refine LeO.bind ?_ (fun _ => ?_)
theorem spec_l20Key.mono : ∀ a0 a1 a2 k, LeO (spec_l20Key.f k a0 a1 a2) (spec_l20Key.f (k + 1) a0 a1 a2) := by
  intro a0 a1 a2 k
  have ih0 := spec_l20Key.mono_l k
  unfold spec_l20Key.f
  repeat' first
      | (with_reducible exact ih0 _ _ _ _)
      | (with_reducible exact spec_l20Rd_odd.mono _ _ _ _)
      | (with_reducible exact spec_l20Rd_pick.mono _ _ _ _)
      | (with_reducible exact LeO.refl _)
      | (with_reducible exact LeO.none _)
      | (with_reducible refine LeO.ite ?_ ?_)
      | (with_reducible refine LeO.bind ?_ (fun _ => ?_))
      | exact ih0 _ _ _ _
      | exact spec_l20Rd_odd.mono _ _ _ _
      | exact spec_l20Rd_pick.mono _ _ _ _
      | exact LeO.none _
      | refine LeO.ite ?_ ?_
      | refine LeO.bind ?_ (fun _ => ?_)
theorem spec_l20Key.s0 {P0 Q : Prop} (B0 : P0) (h : P0 → Q := by (intro b0_; repeat (first | (with_reducible first | exact b0_ | apply IsS147.alloc | apply IsS147.drewN | apply IsS147.drew | apply IsS147.set_1) | exact b0_))) : Q := h B0
theorem spec_l20Key.s1 {P0 P1 Q : Prop} (B0 : P0) (B1 : P1) (h : P0 → P1 → Q := by (intro b0_ b1_; repeat (first | (with_reducible first | exact b0_ | apply below_alloc | apply pw_below_drewN | apply below_drew1 | refine below_set ?_ (IsS147.ge b1_)) | exact b0_))) : Q := h B0 B1
theorem spec_l20Key.s2 {P0 Q : Prop} (B0 : P0) (h : P0 → Q := by (intro b0_; repeat (first | (with_reducible first | exact b0_ | apply KeepBut.set_ | apply keep_drewN | apply keep_drew | apply keep_alloc) | exact b0_))) : Q := h B0
set_option maxHeartbeats 8000000 in
set_option maxRecDepth 100000 in
theorem spec_l20Key.calls (k : Nat) (g : Nat) (s0_0 : List Int) (s0_1 : Int) (a1 : Int) (r1 : ByteArray) (r2 : Int) (w0 w : World) (hI : IsS147 w0 w g s0_0 s0_1) (hB : Below w0.heap.size w0 w) (h : spec_l20Key.f k s0_0 s0_1 a1 = some (r1, r2)) :
    Calls Try.prog 122 #[.pointer (some ⟨g, 0, none⟩), .int .i64 a1] w fun e w' => e = .returned (.string r1) ∧ IsS147 w0 w' g s0_0 r2 ∧ Below w0.heap.size w0 w' ∧ KeepBut w w' g none := by
  have HI0 := Aside0.mk hI
  have HK := Aside0.mk (KeepBut.refl w g none)
  have HL := Aside0.mk hB.size
  clear hI
  have HW0 := Aside0.mk hB.size
  have HB := Aside0.mk hB
  clear hB
  have H : ((spec_l20Rd_odd.f k s0_0 s0_1 a1).bind fun bt121 => (if bt121.1 = true then ((some (([(⟨#[]⟩ : ByteArray), (⟨#[65]⟩ : ByteArray), (⟨#[97, 49]⟩ : ByteArray), (⟨#[97, 98, 99, 100, 101]⟩ : ByteArray), (⟨#[98, 123]⟩ : ByteArray), (⟨#[97, 32, 98]⟩ : ByteArray)] : List ByteArray) : List ByteArray)).bind fun y123 => ((spec_l20Rd_pick.f k s0_0 bt121.2 6).bind fun bt126 => (if 0 ≤ bt126.1 then (if bt126.1 < (y123.length : Int) then (some (rdOf ByteArray.empty y123 bt126.1, bt126.2)) else (none)) else (none)))) else ((spec_l20Rd_pick.f k s0_0 bt121.2 12).bind fun bt129 => (if bt129.1 = 11 then ((some (([(⟨#[122, 122, 122, 122]⟩ : ByteArray), (⟨#[122, 122, 122]⟩ : ByteArray), (⟨#[97, 122, 122, 122]⟩ : ByteArray), (⟨#[122]⟩ : ByteArray), (⟨#[97, 97, 97, 97]⟩ : ByteArray)] : List ByteArray) : List ByteArray)).bind fun y131 => ((spec_l20Rd_pick.f k s0_0 bt129.2 5).bind fun bt134 => (if 0 ≤ bt134.1 then (if bt134.1 < (y131.length : Int) then (some (rdOf ByteArray.empty y131 bt134.1, bt134.2)) else (none)) else (none)))) else ((spec_l20Rd_pick.f k s0_0 bt129.2 2).bind fun bt137 => (spec_l20Key.l0 k (⟨#[]⟩ : ByteArray) (wrap64 (1 + bt137.1)) s0_0 bt137.2)))))) = some (r1, r2) := h
  clear h
  replace H := Option.bind_eq_some_iff.mp H
  obtain ⟨⟨t121, t122⟩, A30, H⟩ := H
  replace H : (if t121 = true then ((some (([(⟨#[]⟩ : ByteArray), (⟨#[65]⟩ : ByteArray), (⟨#[97, 49]⟩ : ByteArray), (⟨#[97, 98, 99, 100, 101]⟩ : ByteArray), (⟨#[98, 123]⟩ : ByteArray), (⟨#[97, 32, 98]⟩ : ByteArray)] : List ByteArray) : List ByteArray)).bind fun y123 => ((spec_l20Rd_pick.f k s0_0 t122 6).bind fun bt126 => (if 0 ≤ bt126.1 then (if bt126.1 < (y123.length : Int) then (some (rdOf ByteArray.empty y123 bt126.1, bt126.2)) else (none)) else (none)))) else ((spec_l20Rd_pick.f k s0_0 t122 12).bind fun bt129 => (if bt129.1 = 11 then ((some (([(⟨#[122, 122, 122, 122]⟩ : ByteArray), (⟨#[122, 122, 122]⟩ : ByteArray), (⟨#[97, 122, 122, 122]⟩ : ByteArray), (⟨#[122]⟩ : ByteArray), (⟨#[97, 97, 97, 97]⟩ : ByteArray)] : List ByteArray) : List ByteArray)).bind fun y131 => ((spec_l20Rd_pick.f k s0_0 bt129.2 5).bind fun bt134 => (if 0 ≤ bt134.1 then (if bt134.1 < (y131.length : Int) then (some (rdOf ByteArray.empty y131 bt134.1, bt134.2)) else (none)) else (none)))) else ((spec_l20Rd_pick.f k s0_0 bt129.2 2).bind fun bt137 => (spec_l20Key.l0 k (⟨#[]⟩ : ByteArray) (wrap64 (1 + bt137.1)) s0_0 bt137.2))))) = some (r1, r2) := H
  have A3 := Aside0.mk A30
  clear A30
  by_cases c4 : t121 = true
  · subst c4
    have H1 : ((some (([(⟨#[]⟩ : ByteArray), (⟨#[65]⟩ : ByteArray), (⟨#[97, 49]⟩ : ByteArray), (⟨#[97, 98, 99, 100, 101]⟩ : ByteArray), (⟨#[98, 123]⟩ : ByteArray), (⟨#[97, 32, 98]⟩ : ByteArray)] : List ByteArray) : List ByteArray)).bind fun y123 => ((spec_l20Rd_pick.f k s0_0 t122 6).bind fun bt126 => (if 0 ≤ bt126.1 then (if bt126.1 < (y123.length : Int) then (some (rdOf ByteArray.empty y123 bt126.1, bt126.2)) else (none)) else (none)))) = some (r1, r2) := by rw [if_pos rfl] at H; exact H
    clear H
    have H := H1
    clear H1
    obtain ⟨y123, hy123⟩ : ∃ y_ : List ByteArray, y_ = (([(⟨#[]⟩ : ByteArray), (⟨#[65]⟩ : ByteArray), (⟨#[97, 49]⟩ : ByteArray), (⟨#[97, 98, 99, 100, 101]⟩ : ByteArray), (⟨#[98, 123]⟩ : ByteArray), (⟨#[97, 32, 98]⟩ : ByteArray)] : List ByteArray)) := ⟨_, rfl⟩
    replace H : ((spec_l20Rd_pick.f k s0_0 t122 6).bind fun bt126 => (if 0 ≤ bt126.1 then (if bt126.1 < (y123.length : Int) then (some (rdOf ByteArray.empty y123 bt126.1, bt126.2)) else (none)) else (none))) = some (r1, r2) := by first | (rw [hy123]; with_reducible exact H) | (have H2_ := (Option.bind_some _ _).symm.trans H; rw [hy123]; with_reducible exact H2_) | (have H2_ := (Option.bind_some _ _).symm.trans H; with_reducible exact H2_) | with_reducible exact H | (rw [hy123]; exact H) | exact H
    have Ny123 := Aside0.mk hy123
    clear hy123
    replace H := Option.bind_eq_some_iff.mp H
    obtain ⟨⟨t126, t127⟩, A50, H⟩ := H
    replace H : (if 0 ≤ t126 then (if t126 < (y123.length : Int) then (some (rdOf ByteArray.empty y123 t126, t127)) else (none)) else (none)) = some (r1, r2) := H
    have A5 := Aside0.mk A50
    clear A50
    by_cases c6 : 0 ≤ t126
    · rw [if_pos c6] at H
      have c6b0 : decide (0 ≤ t126) = true := decide_eq_true c6
      clear c6
      by_cases c7 : t126 < (y123.length : Int)
      · rw [if_pos c7] at H
        have c7b0 : decide (t126 < (y123.length : Int)) = true := decide_eq_true c7
        clear c7
        simp only [Option.some.injEq, Prod.mk.injEq] at H
        obtain ⟨rfl, rfl⟩ := H
        go_enter Try.func122, Try.ntmps122
        go_wp2_with (first | ((with_reducible refine gate_callee (f := 125) rfl ?_); refine gsl (some 9) rfl Try.func125 #[.pointer (some ⟨g, 0, none⟩), .int .i64 a1] rfl ?_; (with_reducible refine (spec_l20Rd_odd.calls k g s0_0 s0_1 a1 true t122 w0 _ ?side1 ?side2 A3.out).mono ?_); (case side1 => exact spec_l20Key.s0 HI0.out); (case side2 => exact spec_l20Key.s1 HB.out HI0.out); rintro e w8 ⟨rfl, hi, hb, hk⟩; refine ⟨_, rfl, ?_⟩; have n0_ := Aside0.mk (KeepBut.trans (spec_l20Key.s2 HK.out) hk (.inl rfl)); have n1_ := Aside0.mk (hb); have n2_ := Aside0.mk (hi); clear HK; clear HB; clear HI0; have HK := n0_; have HB := n1_; have HI0 := n2_; clear n0_ n1_ n2_; (try clear hb); (try clear hb2); (try clear hk); (try clear hi)) | ((with_reducible refine gate_dst (N := 10) rfl ?_); refine Kd.R_lit Kd.string _ 9 ?hg (N := 10) ?hd (xs := ([(⟨#[]⟩ : ByteArray), (⟨#[65]⟩ : ByteArray), (⟨#[97, 49]⟩ : ByteArray), (⟨#[97, 98, 99, 100, 101]⟩ : ByteArray), (⟨#[98, 123]⟩ : ByteArray), (⟨#[97, 32, 98]⟩ : ByteArray)] : List ByteArray)) (inner := [.string (⟨#[]⟩ : ByteArray), .string (⟨#[65]⟩ : ByteArray), .string (⟨#[97, 49]⟩ : ByteArray), .string (⟨#[97, 98, 99, 100, 101]⟩ : ByteArray), .string (⟨#[98, 123]⟩ : ByteArray), .string (⟨#[97, 32, 98]⟩ : ByteArray)]) (ok := fun _ => True) (okp := fun _ => True) ?hr ?hp (fun _ hk => hk) trivial (Below.refl _ _) (Nat.le_refl _) (by simp) ?_; (case hd => rfl); (case hg => rfl); (case hr => first | (go_simp; done) | (go_simp; rfl)); (case hp => exact (Reps.one (show Kd.M Kd.string _ _ _ (⟨#[]⟩ : ByteArray) [.string (⟨#[]⟩ : ByteArray)] from rfl) (Reps.one (show Kd.M Kd.string _ _ _ (⟨#[65]⟩ : ByteArray) [.string (⟨#[65]⟩ : ByteArray)] from rfl) (Reps.one (show Kd.M Kd.string _ _ _ (⟨#[97, 49]⟩ : ByteArray) [.string (⟨#[97, 49]⟩ : ByteArray)] from rfl) (Reps.one (show Kd.M Kd.string _ _ _ (⟨#[97, 98, 99, 100, 101]⟩ : ByteArray) [.string (⟨#[97, 98, 99, 100, 101]⟩ : ByteArray)] from rfl) (Reps.one (show Kd.M Kd.string _ _ _ (⟨#[98, 123]⟩ : ByteArray) [.string (⟨#[98, 123]⟩ : ByteArray)] from rfl) (Reps.one (show Kd.M Kd.string _ _ _ (⟨#[97, 32, 98]⟩ : ByteArray) [.string (⟨#[97, 32, 98]⟩ : ByteArray)] from rfl) (Reps.none _ _)))))))); intro v124 w9 ho10 hb hg_ hnew_; clear hg_ hnew_; (first | rw [← Ny123.out] at ho10 | (simp only [Int.reduceToNat] at ho10; rw [← Ny123.out] at ho10)); have n0_ := Aside0.mk (Kd.R_lower ho10 (keep_size (w := w) (g := g) (row := none) (spec_l20Key.s2 HK.out))); have n1_ := Aside0.mk (IsS147.below (spec_l20Key.s0 HI0.out) hb); have n2_ := Aside0.mk (KeepBut.trans (spec_l20Key.s2 HK.out) (KeepBut.of_below hb g none) (.inl rfl)); have n3_ := Aside0.mk (below_step (spec_l20Key.s1 HB.out HI0.out) hb); clear HI0; clear HK; clear HB; have HO125 := n0_; have HI0 := n1_; have HK := n2_; have HB := n3_; clear n0_ n1_ n2_ n3_; clear hb ho10) | ((with_reducible refine gate_callee (f := 78) rfl ?_); refine gsl (some 12) rfl Try.func78 #[.pointer (some ⟨g, 0, none⟩), .int .i64 6] rfl ?_; (with_reducible refine (spec_l20Rd_pick.calls k g s0_0 t122 6 t126 t127 w0 _ ?side1 ?side2 A5.out).mono ?_); (case side1 => exact spec_l20Key.s0 HI0.out); (case side2 => exact spec_l20Key.s1 HB.out HI0.out); rintro e w11 ⟨rfl, hi, hb, hk⟩; refine ⟨_, rfl, ?_⟩; have n0_ := Aside0.mk (Kd.R_mono (Kd.R_keep (IsS147.apart (show IsS147 w0 _ g s0_0 t122 from spec_l20Key.s0 HI0.out) (kr HO125.out) (by decide)) hk (fun _ h => h.2)) (fun _ h => h.1)); have n1_ := Aside0.mk (KeepBut.trans (spec_l20Key.s2 HK.out) hk (.inl rfl)); have n2_ := Aside0.mk (hb); have n3_ := Aside0.mk (hi); clear HO125; clear HK; clear HB; clear HI0; have HO125 := n0_; have HK := n1_; have HB := n2_; have HI0 := n3_; clear n0_ n1_ n2_ n3_; (try clear hb); (try clear hb2); (try clear hk); (try clear hi); obtain ⟨Ao12, co12, eo12⟩ := Kd.R_slice HO125.out; subst eo12; have p128 : 0 ≤ (t126 : Int) := of_decide_eq_true (by first | (with_reducible assumption) | assumption); have q128 : t126 < (y123.length : Int) := of_decide_eq_true (by first | (with_reducible assumption) | assumption); obtain ⟨ad128, e128, hx128_0⟩ := Kd.at_string (Kd.R_reads' HO125.out).2.2 t126 p128 q128; cases e128; replace p128 := eq_true p128; replace q128 := eq_true q128))
        go_ret
        exact ⟨fe, spec_l20Key.s0 HI0.out, spec_l20Key.s1 HB.out HI0.out, spec_l20Key.s2 HK.out⟩
      · rw [if_neg c7] at H
        exact absurd H (by simp)
    · rw [if_neg c6] at H
      exact absurd H (by simp)
  · replace c4 := Bool.eq_false_iff.mpr c4
    subst c4
    have H1 : ((spec_l20Rd_pick.f k s0_0 t122 12).bind fun bt129 => (if bt129.1 = 11 then ((some (([(⟨#[122, 122, 122, 122]⟩ : ByteArray), (⟨#[122, 122, 122]⟩ : ByteArray), (⟨#[97, 122, 122, 122]⟩ : ByteArray), (⟨#[122]⟩ : ByteArray), (⟨#[97, 97, 97, 97]⟩ : ByteArray)] : List ByteArray) : List ByteArray)).bind fun y131 => ((spec_l20Rd_pick.f k s0_0 bt129.2 5).bind fun bt134 => (if 0 ≤ bt134.1 then (if bt134.1 < (y131.length : Int) then (some (rdOf ByteArray.empty y131 bt134.1, bt134.2)) else (none)) else (none)))) else ((spec_l20Rd_pick.f k s0_0 bt129.2 2).bind fun bt137 => (spec_l20Key.l0 k (⟨#[]⟩ : ByteArray) (wrap64 (1 + bt137.1)) s0_0 bt137.2)))) = some (r1, r2) := by rw [if_neg (show ¬ (false = true) by decide)] at H; exact H
    clear H
    have H := H1
    clear H1
    replace H := Option.bind_eq_some_iff.mp H
    obtain ⟨⟨t129, t130⟩, A130, H⟩ := H
    replace H : (if t129 = 11 then ((some (([(⟨#[122, 122, 122, 122]⟩ : ByteArray), (⟨#[122, 122, 122]⟩ : ByteArray), (⟨#[97, 122, 122, 122]⟩ : ByteArray), (⟨#[122]⟩ : ByteArray), (⟨#[97, 97, 97, 97]⟩ : ByteArray)] : List ByteArray) : List ByteArray)).bind fun y131 => ((spec_l20Rd_pick.f k s0_0 t130 5).bind fun bt134 => (if 0 ≤ bt134.1 then (if bt134.1 < (y131.length : Int) then (some (rdOf ByteArray.empty y131 bt134.1, bt134.2)) else (none)) else (none)))) else ((spec_l20Rd_pick.f k s0_0 t130 2).bind fun bt137 => (spec_l20Key.l0 k (⟨#[]⟩ : ByteArray) (wrap64 (1 + bt137.1)) s0_0 bt137.2))) = some (r1, r2) := H
    have A13 := Aside0.mk A130
    clear A130
    by_cases c14 : t129 = 11
    · rw [if_pos c14] at H
      have c14b0 : (t129 == 11) = true := beq_iff_eq.mpr c14
      have c14b1 : (t129 != 11) = false := bne_eq_false_iff_eq.mpr c14
      clear c14
      obtain ⟨y131, hy131⟩ : ∃ y_ : List ByteArray, y_ = (([(⟨#[122, 122, 122, 122]⟩ : ByteArray), (⟨#[122, 122, 122]⟩ : ByteArray), (⟨#[97, 122, 122, 122]⟩ : ByteArray), (⟨#[122]⟩ : ByteArray), (⟨#[97, 97, 97, 97]⟩ : ByteArray)] : List ByteArray)) := ⟨_, rfl⟩
      replace H : ((spec_l20Rd_pick.f k s0_0 t130 5).bind fun bt134 => (if 0 ≤ bt134.1 then (if bt134.1 < (y131.length : Int) then (some (rdOf ByteArray.empty y131 bt134.1, bt134.2)) else (none)) else (none))) = some (r1, r2) := by first | (rw [hy131]; with_reducible exact H) | (have H2_ := (Option.bind_some _ _).symm.trans H; rw [hy131]; with_reducible exact H2_) | (have H2_ := (Option.bind_some _ _).symm.trans H; with_reducible exact H2_) | with_reducible exact H | (rw [hy131]; exact H) | exact H
      have Ny131 := Aside0.mk hy131
      clear hy131
      replace H := Option.bind_eq_some_iff.mp H
      obtain ⟨⟨t134, t135⟩, A150, H⟩ := H
      replace H : (if 0 ≤ t134 then (if t134 < (y131.length : Int) then (some (rdOf ByteArray.empty y131 t134, t135)) else (none)) else (none)) = some (r1, r2) := H
      have A15 := Aside0.mk A150
      clear A150
      by_cases c16 : 0 ≤ t134
      · rw [if_pos c16] at H
        have c16b0 : decide (0 ≤ t134) = true := decide_eq_true c16
        clear c16
        by_cases c17 : t134 < (y131.length : Int)
        · rw [if_pos c17] at H
          have c17b0 : decide (t134 < (y131.length : Int)) = true := decide_eq_true c17
          clear c17
          simp only [Option.some.injEq, Prod.mk.injEq] at H
          obtain ⟨rfl, rfl⟩ := H
          go_enter Try.func122, Try.ntmps122
          go_wp2_with (first | ((with_reducible refine gate_callee (f := 125) rfl ?_); refine gsl (some 9) rfl Try.func125 #[.pointer (some ⟨g, 0, none⟩), .int .i64 a1] rfl ?_; (with_reducible refine (spec_l20Rd_odd.calls k g s0_0 s0_1 a1 false t122 w0 _ ?side1 ?side2 A3.out).mono ?_); (case side1 => exact spec_l20Key.s0 HI0.out); (case side2 => exact spec_l20Key.s1 HB.out HI0.out); rintro e w18 ⟨rfl, hi, hb, hk⟩; refine ⟨_, rfl, ?_⟩; have n0_ := Aside0.mk (KeepBut.trans (spec_l20Key.s2 HK.out) hk (.inl rfl)); have n1_ := Aside0.mk (hb); have n2_ := Aside0.mk (hi); clear HK; clear HB; clear HI0; have HK := n0_; have HB := n1_; have HI0 := n2_; clear n0_ n1_ n2_; (try clear hb); (try clear hb2); (try clear hk); (try clear hi)) | ((with_reducible refine gate_callee (f := 78) rfl ?_); refine gsl (some 16) rfl Try.func78 #[.pointer (some ⟨g, 0, none⟩), .int .i64 12] rfl ?_; (with_reducible refine (spec_l20Rd_pick.calls k g s0_0 t122 12 t129 t130 w0 _ ?side1 ?side2 A13.out).mono ?_); (case side1 => exact spec_l20Key.s0 HI0.out); (case side2 => exact spec_l20Key.s1 HB.out HI0.out); rintro e w19 ⟨rfl, hi, hb, hk⟩; refine ⟨_, rfl, ?_⟩; have n0_ := Aside0.mk (KeepBut.trans (spec_l20Key.s2 HK.out) hk (.inl rfl)); have n1_ := Aside0.mk (hb); have n2_ := Aside0.mk (hi); clear HK; clear HB; clear HI0; have HK := n0_; have HB := n1_; have HI0 := n2_; clear n0_ n1_ n2_; (try clear hb); (try clear hb2); (try clear hk); (try clear hi)) | ((with_reducible refine gate_dst (N := 18) rfl ?_); refine Kd.R_lit Kd.string _ 9 ?hg (N := 18) ?hd (xs := ([(⟨#[122, 122, 122, 122]⟩ : ByteArray), (⟨#[122, 122, 122]⟩ : ByteArray), (⟨#[97, 122, 122, 122]⟩ : ByteArray), (⟨#[122]⟩ : ByteArray), (⟨#[97, 97, 97, 97]⟩ : ByteArray)] : List ByteArray)) (inner := [.string (⟨#[122, 122, 122, 122]⟩ : ByteArray), .string (⟨#[122, 122, 122]⟩ : ByteArray), .string (⟨#[97, 122, 122, 122]⟩ : ByteArray), .string (⟨#[122]⟩ : ByteArray), .string (⟨#[97, 97, 97, 97]⟩ : ByteArray)]) (ok := fun _ => True) (okp := fun _ => True) ?hr ?hp (fun _ hk => hk) trivial (Below.refl _ _) (Nat.le_refl _) (by simp) ?_; (case hd => rfl); (case hg => rfl); (case hr => first | (go_simp; done) | (go_simp; rfl)); (case hp => exact (Reps.one (show Kd.M Kd.string _ _ _ (⟨#[122, 122, 122, 122]⟩ : ByteArray) [.string (⟨#[122, 122, 122, 122]⟩ : ByteArray)] from rfl) (Reps.one (show Kd.M Kd.string _ _ _ (⟨#[122, 122, 122]⟩ : ByteArray) [.string (⟨#[122, 122, 122]⟩ : ByteArray)] from rfl) (Reps.one (show Kd.M Kd.string _ _ _ (⟨#[97, 122, 122, 122]⟩ : ByteArray) [.string (⟨#[97, 122, 122, 122]⟩ : ByteArray)] from rfl) (Reps.one (show Kd.M Kd.string _ _ _ (⟨#[122]⟩ : ByteArray) [.string (⟨#[122]⟩ : ByteArray)] from rfl) (Reps.one (show Kd.M Kd.string _ _ _ (⟨#[97, 97, 97, 97]⟩ : ByteArray) [.string (⟨#[97, 97, 97, 97]⟩ : ByteArray)] from rfl) (Reps.none _ _))))))); intro v132 w20 ho21 hb hg_ hnew_; clear hg_ hnew_; (first | rw [← Ny131.out] at ho21 | (simp only [Int.reduceToNat] at ho21; rw [← Ny131.out] at ho21)); have n0_ := Aside0.mk (Kd.R_lower ho21 (keep_size (w := w) (g := g) (row := none) (spec_l20Key.s2 HK.out))); have n1_ := Aside0.mk (IsS147.below (spec_l20Key.s0 HI0.out) hb); have n2_ := Aside0.mk (KeepBut.trans (spec_l20Key.s2 HK.out) (KeepBut.of_below hb g none) (.inl rfl)); have n3_ := Aside0.mk (below_step (spec_l20Key.s1 HB.out HI0.out) hb); clear HI0; clear HK; clear HB; have HO133 := n0_; have HI0 := n1_; have HK := n2_; have HB := n3_; clear n0_ n1_ n2_ n3_; clear hb ho21) | ((with_reducible refine gate_callee (f := 78) rfl ?_); refine gsl (some 20) rfl Try.func78 #[.pointer (some ⟨g, 0, none⟩), .int .i64 5] rfl ?_; (with_reducible refine (spec_l20Rd_pick.calls k g s0_0 t130 5 t134 t135 w0 _ ?side1 ?side2 A15.out).mono ?_); (case side1 => exact spec_l20Key.s0 HI0.out); (case side2 => exact spec_l20Key.s1 HB.out HI0.out); rintro e w22 ⟨rfl, hi, hb, hk⟩; refine ⟨_, rfl, ?_⟩; have n0_ := Aside0.mk (Kd.R_mono (Kd.R_keep (IsS147.apart (show IsS147 w0 _ g s0_0 t130 from spec_l20Key.s0 HI0.out) (kr HO133.out) (by decide)) hk (fun _ h => h.2)) (fun _ h => h.1)); have n1_ := Aside0.mk (KeepBut.trans (spec_l20Key.s2 HK.out) hk (.inl rfl)); have n2_ := Aside0.mk (hb); have n3_ := Aside0.mk (hi); clear HO133; clear HK; clear HB; clear HI0; have HO133 := n0_; have HK := n1_; have HB := n2_; have HI0 := n3_; clear n0_ n1_ n2_ n3_; (try clear hb); (try clear hb2); (try clear hk); (try clear hi); obtain ⟨Ao23, co23, eo23⟩ := Kd.R_slice HO133.out; subst eo23; have p136 : 0 ≤ (t134 : Int) := of_decide_eq_true (by first | (with_reducible assumption) | assumption); have q136 : t134 < (y131.length : Int) := of_decide_eq_true (by first | (with_reducible assumption) | assumption); obtain ⟨ad136, e136, hx136_0⟩ := Kd.at_string (Kd.R_reads' HO133.out).2.2 t134 p136 q136; cases e136; replace p136 := eq_true p136; replace q136 := eq_true q136))
          go_ret
          exact ⟨fe, spec_l20Key.s0 HI0.out, spec_l20Key.s1 HB.out HI0.out, spec_l20Key.s2 HK.out⟩
        · rw [if_neg c17] at H
          exact absurd H (by simp)
      · rw [if_neg c16] at H
        exact absurd H (by simp)
    · rw [if_neg c14] at H
      have c14b0 : (t129 == 11) = false := beq_eq_false_iff_ne.mpr c14
      have c14b1 : (t129 != 11) = true := bne_iff_ne.mpr c14
      replace H := Option.bind_eq_some_iff.mp H
      obtain ⟨⟨t137, t138⟩, A240, H⟩ := H
      replace H : (spec_l20Key.l0 k (⟨#[]⟩ : ByteArray) (wrap64 (1 + t137)) s0_0 t138) = some (r1, r2) := H
      have A24 := Aside0.mk A240
      clear A240
      have H' := Aside0.mk H
      clear H
      go_enter Try.func122, Try.ntmps122
      go_wp2_with (first | ((with_reducible refine gate_callee (f := 125) rfl ?_); refine gsl (some 9) rfl Try.func125 #[.pointer (some ⟨g, 0, none⟩), .int .i64 a1] rfl ?_; (with_reducible refine (spec_l20Rd_odd.calls k g s0_0 s0_1 a1 false t122 w0 _ ?side1 ?side2 A3.out).mono ?_); (case side1 => exact spec_l20Key.s0 HI0.out); (case side2 => exact spec_l20Key.s1 HB.out HI0.out); rintro e w25 ⟨rfl, hi, hb, hk⟩; refine ⟨_, rfl, ?_⟩; have n0_ := Aside0.mk (KeepBut.trans (spec_l20Key.s2 HK.out) hk (.inl rfl)); have n1_ := Aside0.mk (hb); have n2_ := Aside0.mk (hi); clear HK; clear HB; clear HI0; have HK := n0_; have HB := n1_; have HI0 := n2_; clear n0_ n1_ n2_; (try clear hb); (try clear hb2); (try clear hk); (try clear hi)) | ((with_reducible refine gate_callee (f := 78) rfl ?_); refine gsl (some 16) rfl Try.func78 #[.pointer (some ⟨g, 0, none⟩), .int .i64 12] rfl ?_; (with_reducible refine (spec_l20Rd_pick.calls k g s0_0 t122 12 t129 t130 w0 _ ?side1 ?side2 A13.out).mono ?_); (case side1 => exact spec_l20Key.s0 HI0.out); (case side2 => exact spec_l20Key.s1 HB.out HI0.out); rintro e w26 ⟨rfl, hi, hb, hk⟩; refine ⟨_, rfl, ?_⟩; have n0_ := Aside0.mk (KeepBut.trans (spec_l20Key.s2 HK.out) hk (.inl rfl)); have n1_ := Aside0.mk (hb); have n2_ := Aside0.mk (hi); clear HK; clear HB; clear HI0; have HK := n0_; have HB := n1_; have HI0 := n2_; clear n0_ n1_ n2_; (try clear hb); (try clear hb2); (try clear hk); (try clear hi)) | ((with_reducible refine gate_callee (f := 78) rfl ?_); refine gsl (some 24) rfl Try.func78 #[.pointer (some ⟨g, 0, none⟩), .int .i64 2] rfl ?_; (with_reducible refine (spec_l20Rd_pick.calls k g s0_0 t130 2 t137 t138 w0 _ ?side1 ?side2 A24.out).mono ?_); (case side1 => exact spec_l20Key.s0 HI0.out); (case side2 => exact spec_l20Key.s1 HB.out HI0.out); rintro e w27 ⟨rfl, hi, hb, hk⟩; refine ⟨_, rfl, ?_⟩; have n0_ := Aside0.mk (KeepBut.trans (spec_l20Key.s2 HK.out) hk (.inl rfl)); have n1_ := Aside0.mk (hb); have n2_ := Aside0.mk (hi); clear HK; clear HB; clear HI0; have HK := n0_; have HB := n1_; have HI0 := n2_; clear n0_ n1_ n2_; (try clear hb); (try clear hb2); (try clear hk); (try clear hi)))
      go_loopg [5, 6] k (fun kq v5 v6 w' => ∃ (x5_1 : ByteArray) (x6_1 : Int) (x1001_1 : Int), v5 = .string x5_1 ∧ v6 = .int .i64 x6_1 ∧ Aside0 (spec_l20Key.l0 kq x5_1 x6_1 s0_0 x1001_1 = some (r1, r2)) ∧ Aside0 (kq ≤ k) ∧ Aside0 (IsS147 w0 w' g s0_0 x1001_1) ∧ Aside0 (KeepBut w w' g none) ∧ Aside0 (Below w0.heap.size w0 w'))
      case atStart => exact ⟨((⟨#[]⟩ : ByteArray)), (wrap64 (1 + t137)), (t138), (by first | rfl | (simp; done) | (simp [*]; done) | (simp [bne_nil_, beq_nil_]; done)), (by first | rfl | (simp; done) | (simp [*]; done) | (simp [bne_nil_, beq_nil_]; done)), H', ⟨Nat.le_refl _⟩, ⟨spec_l20Key.s0 HI0.out⟩, ⟨spec_l20Key.s2 HK.out⟩, ⟨spec_l20Key.s1 HB.out HI0.out⟩⟩
      case round =>
        clear H'
        try clear c1
        try clear p1
        try clear q1
        try clear hx1
        try clear p2
        try clear c4
        try clear c6
        try clear c6b0
        try clear p6
        try clear c7
        try clear c7b0
        try clear c12
        try clear p12
        try clear q12
        try clear hx12
        try clear p13
        try clear q13
        try clear hx13
        try clear c14
        try clear c14b0
        try clear c14b1
        try clear c16
        try clear c16b0
        try clear c17
        try clear c17b0
        try clear hx128_0
        try clear hx136_0
        try clear p128
        try clear p136
        try clear q128
        try clear q136
        obtain ⟨x5_1, x6_1, x1001_1, rfl, rfl, HA, HK1, HI0, HK, HB⟩ := hrel
        cases gk with
        | zero => exact absurd HA.out (by simp [spec_l20Key.l0])
        | succ k1 =>
          have H := HA.out
          clear HA
          simp only [spec_l20Key.l0] at H
          by_cases c28 : x6_1 > 0
          · rw [if_pos c28] at H
            have c28b0 : decide (0 < x6_1) = true := decide_eq_true c28
            clear c28
            replace H := Option.bind_eq_some_iff.mp H
            obtain ⟨⟨t139, t140⟩, A290, H⟩ := H
            replace H : ((some (([(wrap64 (97 + t139)) % 256] : List Int) : List Int)).bind fun y141 => (if x5_1.size + (strOfNums y141).size ≤ 9223372036854775807 then (spec_l20Key.l0 k1 (x5_1 ++ (strOfNums y141)) (wrap64 (x6_1 - 1)) s0_0 t140) else (none))) = some (r1, r2) := H
            have A29 := Aside0.mk A290
            clear A290
            obtain ⟨y141, hy141⟩ : ∃ y_ : List Int, y_ = (([(wrap64 (97 + t139)) % 256] : List Int)) := ⟨_, rfl⟩
            replace H : (if x5_1.size + (strOfNums y141).size ≤ 9223372036854775807 then (spec_l20Key.l0 k1 (x5_1 ++ (strOfNums y141)) (wrap64 (x6_1 - 1)) s0_0 t140) else (none)) = some (r1, r2) := by first | (rw [hy141]; with_reducible exact H) | (have H2_ := (Option.bind_some _ _).symm.trans H; rw [hy141]; with_reducible exact H2_) | (have H2_ := (Option.bind_some _ _).symm.trans H; with_reducible exact H2_) | with_reducible exact H | (rw [hy141]; exact H) | exact H
            have Ny141 := Aside0.mk hy141
            clear hy141
            by_cases c30 : x5_1.size + (strOfNums y141).size ≤ 9223372036854775807
            · rw [if_pos c30] at H
              have c30b0 := eq_true c30
              have c30b1 : decide (x5_1.size + (strOfNums y141).size ≤ 9223372036854775807) = true := decide_eq_true c30
              try have c30b2 : (9223372036854775807 < x5_1.size + (strOfNums y141).size) = False := eq_false (Nat.not_lt.2 c30)
              have H' := Aside0.mk H
              clear H
              go_wp2_with (first | ((with_reducible refine gate_callee (f := 78) rfl ?_); refine gsl (some 32) rfl Try.func78 #[.pointer (some ⟨g, 0, none⟩), .int .i64 4] rfl ?_; (with_reducible refine (spec_l20Rd_pick.calls k1 g s0_0 x1001_1 4 t139 t140 w0 _ ?side1 ?side2 A29.out).mono ?_); (case side1 => exact spec_l20Key.s0 HI0.out); (case side2 => exact spec_l20Key.s1 HB.out HI0.out); rintro e w31 ⟨rfl, hi, hb, hk⟩; refine ⟨_, rfl, ?_⟩; have n0_ := Aside0.mk (KeepBut.trans (spec_l20Key.s2 HK.out) hk (.inl rfl)); have n1_ := Aside0.mk (hb); have n2_ := Aside0.mk (hi); clear HK; clear HB; clear HI0; have HK := n0_; have HB := n1_; have HI0 := n2_; clear n0_ n1_ n2_; (try clear hb); (try clear hb2); (try clear hk); (try clear hi)) | ((with_reducible refine gate_dst (N := 35) rfl ?_); refine Kd.R_lit (Kd.int .u8) _ 5 ?hg (N := 35) ?hd (xs := ([(wrap64 (97 + t139)) % 256] : List Int)) (inner := [.int .u8 ((wrap64 (97 + t139)) % 256)]) (ok := fun _ => True) (okp := fun _ => True) ?hr ?hp (fun _ hk => hk) trivial (Below.refl _ _) (Nat.le_refl _) (by simp) ?_; (case hd => rfl); (case hg => rfl); (case hr => first | (go_simp; done) | (go_simp; rfl)); (case hp => exact (Reps.one (show Kd.M (Kd.int .u8) _ _ _ ((wrap64 (97 + t139)) % 256) [.int .u8 ((wrap64 (97 + t139)) % 256)] from rfl) (Reps.none _ _))); intro v142 w32 ho33 hb hg_ hnew_; clear hg_ hnew_; (first | rw [← Ny141.out] at ho33 | (simp only [Int.reduceToNat] at ho33; rw [← Ny141.out] at ho33)); have n0_ := Aside0.mk (Kd.R_lower ho33 (keep_size (w := w) (g := g) (row := none) (spec_l20Key.s2 HK.out))); have n1_ := Aside0.mk (IsS147.below (spec_l20Key.s0 HI0.out) hb); have n2_ := Aside0.mk (KeepBut.trans (spec_l20Key.s2 HK.out) (KeepBut.of_below hb g none) (.inl rfl)); have n3_ := Aside0.mk (below_step (spec_l20Key.s1 HB.out HI0.out) hb); clear HI0; clear HK; clear HB; have HO143 := n0_; have HI0 := n1_; have HK := n2_; have HB := n3_; clear n0_ n1_ n2_ n3_; clear hb ho33; have hcv34 := own_string (P := Try.prog) Try.underlying22 Try.underlying5 Try.underlying9 (Kd.own_of_R HO143.out)))
              go_roundg k1
              case measure => have := HK1.out; omega
              case rel => exact ⟨(x5_1 ++ (strOfNums y141)), (wrap64 (x6_1 - 1)), (t140), (by first | rfl | (simp; done) | (simp [*]; done) | (simp [bne_nil_, beq_nil_]; done)), (by first | rfl | (simp; done) | (simp [*]; done) | (simp [bne_nil_, beq_nil_]; done)), H', ⟨by have := HK1.out; omega⟩, ⟨spec_l20Key.s0 HI0.out⟩, ⟨spec_l20Key.s2 HK.out⟩, ⟨spec_l20Key.s1 HB.out HI0.out⟩⟩
            · rw [if_neg c30] at H
              exact absurd H (by simp)
          · rw [if_neg c28] at H
            have c28b0 : decide (0 < x6_1) = false := decide_eq_false c28
            clear c28
            simp only [Option.some.injEq, Prod.mk.injEq] at H
            obtain ⟨rfl, rfl⟩ := H
            go_wp2
            go_ret
            exact ⟨fe, spec_l20Key.s0 HI0.out, spec_l20Key.s1 HB.out HI0.out, spec_l20Key.s2 HK.out⟩

/-! ### spec_l20Value: function 123 -/
def spec_l20Value.f (k : Nat) (s0_0 : List Int) (s0_1 : Int) (a1 : Int) : Option (Int × Int) := (spec_l20Rd_odd.f k s0_0 s0_1 a1).bind fun bt144 => (if bt144.1 = true then ((some (([(-1), 1000] : List Int) : List Int)).bind fun y146 => ((spec_l20Rd_pick.f k s0_0 bt144.2 2).bind fun bt149 => (if 0 ≤ bt149.1 then (if bt149.1 < (y146.length : Int) then (some (rd y146 bt149.1, bt149.2)) else (none)) else (none)))) else ((spec_l20Rd_pick.f k s0_0 bt144.2 20).bind fun bt152 => ((some (([bt152.1, 999] : List Int) : List Int)).bind fun y154 => ((spec_l20Rd_pick.f k s0_0 bt152.2 9).bind fun bt157 => (if 0 ≤ (wrap64 (Int.tdiv bt157.1 8)) then (if (wrap64 (Int.tdiv bt157.1 8)) < (y154.length : Int) then (some (rd y154 (wrap64 (Int.tdiv bt157.1 8)), bt157.2)) else (none)) else (none))))))
theorem spec_l20Value.mono : ∀ a0 a1 a2 k, LeO (spec_l20Value.f k a0 a1 a2) (spec_l20Value.f (k + 1) a0 a1 a2) := by
  intro a0 a1 a2 k
  unfold spec_l20Value.f
  repeat' first
      | (with_reducible exact spec_l20Rd_odd.mono _ _ _ _)
      | (with_reducible exact spec_l20Rd_pick.mono _ _ _ _)
      | (with_reducible exact LeO.refl _)
      | (with_reducible exact LeO.none _)
      | (with_reducible refine LeO.ite ?_ ?_)
      | (with_reducible refine LeO.bind ?_ (fun _ => ?_))
      | exact spec_l20Rd_odd.mono _ _ _ _
      | exact spec_l20Rd_pick.mono _ _ _ _
      | exact LeO.none _
      | refine LeO.ite ?_ ?_
      | refine LeO.bind ?_ (fun _ => ?_)
theorem spec_l20Value.s0 {P0 Q : Prop} (B0 : P0) (h : P0 → Q := by (intro b0_; repeat (first | (with_reducible first | exact b0_ | apply IsS147.alloc | apply IsS147.drewN | apply IsS147.drew | apply IsS147.set_1) | exact b0_))) : Q := h B0
theorem spec_l20Value.s1 {P0 P1 Q : Prop} (B0 : P0) (B1 : P1) (h : P0 → P1 → Q := by (intro b0_ b1_; repeat (first | (with_reducible first | exact b0_ | apply below_alloc | apply pw_below_drewN | apply below_drew1 | refine below_set ?_ (IsS147.ge b1_)) | exact b0_))) : Q := h B0 B1
theorem spec_l20Value.s2 {P0 Q : Prop} (B0 : P0) (h : P0 → Q := by (intro b0_; repeat (first | (with_reducible first | exact b0_ | apply KeepBut.set_ | apply keep_drewN | apply keep_drew | apply keep_alloc) | exact b0_))) : Q := h B0
set_option maxHeartbeats 8000000 in
set_option maxRecDepth 100000 in
theorem spec_l20Value.calls (k : Nat) (g : Nat) (s0_0 : List Int) (s0_1 : Int) (a1 : Int) (r1 : Int) (r2 : Int) (w0 w : World) (hI : IsS147 w0 w g s0_0 s0_1) (hB : Below w0.heap.size w0 w) (h : spec_l20Value.f k s0_0 s0_1 a1 = some (r1, r2)) :
    Calls Try.prog 123 #[.pointer (some ⟨g, 0, none⟩), .int .i64 a1] w fun e w' => e = .returned (.int .i64 r1) ∧ IsS147 w0 w' g s0_0 r2 ∧ Below w0.heap.size w0 w' ∧ KeepBut w w' g none := by
  have HI0 := Aside0.mk hI
  have HK := Aside0.mk (KeepBut.refl w g none)
  have HL := Aside0.mk hB.size
  clear hI
  have HW0 := Aside0.mk hB.size
  have HB := Aside0.mk hB
  clear hB
  have H : ((spec_l20Rd_odd.f k s0_0 s0_1 a1).bind fun bt144 => (if bt144.1 = true then ((some (([(-1), 1000] : List Int) : List Int)).bind fun y146 => ((spec_l20Rd_pick.f k s0_0 bt144.2 2).bind fun bt149 => (if 0 ≤ bt149.1 then (if bt149.1 < (y146.length : Int) then (some (rd y146 bt149.1, bt149.2)) else (none)) else (none)))) else ((spec_l20Rd_pick.f k s0_0 bt144.2 20).bind fun bt152 => ((some (([bt152.1, 999] : List Int) : List Int)).bind fun y154 => ((spec_l20Rd_pick.f k s0_0 bt152.2 9).bind fun bt157 => (if 0 ≤ (wrap64 (Int.tdiv bt157.1 8)) then (if (wrap64 (Int.tdiv bt157.1 8)) < (y154.length : Int) then (some (rd y154 (wrap64 (Int.tdiv bt157.1 8)), bt157.2)) else (none)) else (none))))))) = some (r1, r2) := h
  clear h
  replace H := Option.bind_eq_some_iff.mp H
  obtain ⟨⟨t144, t145⟩, A30, H⟩ := H
  replace H : (if t144 = true then ((some (([(-1), 1000] : List Int) : List Int)).bind fun y146 => ((spec_l20Rd_pick.f k s0_0 t145 2).bind fun bt149 => (if 0 ≤ bt149.1 then (if bt149.1 < (y146.length : Int) then (some (rd y146 bt149.1, bt149.2)) else (none)) else (none)))) else ((spec_l20Rd_pick.f k s0_0 t145 20).bind fun bt152 => ((some (([bt152.1, 999] : List Int) : List Int)).bind fun y154 => ((spec_l20Rd_pick.f k s0_0 bt152.2 9).bind fun bt157 => (if 0 ≤ (wrap64 (Int.tdiv bt157.1 8)) then (if (wrap64 (Int.tdiv bt157.1 8)) < (y154.length : Int) then (some (rd y154 (wrap64 (Int.tdiv bt157.1 8)), bt157.2)) else (none)) else (none)))))) = some (r1, r2) := H
  have A3 := Aside0.mk A30
  clear A30
  by_cases c4 : t144 = true
  · subst c4
    have H1 : ((some (([(-1), 1000] : List Int) : List Int)).bind fun y146 => ((spec_l20Rd_pick.f k s0_0 t145 2).bind fun bt149 => (if 0 ≤ bt149.1 then (if bt149.1 < (y146.length : Int) then (some (rd y146 bt149.1, bt149.2)) else (none)) else (none)))) = some (r1, r2) := by rw [if_pos rfl] at H; exact H
    clear H
    have H := H1
    clear H1
    obtain ⟨y146, hy146⟩ : ∃ y_ : List Int, y_ = (([(-1), 1000] : List Int)) := ⟨_, rfl⟩
    replace H : ((spec_l20Rd_pick.f k s0_0 t145 2).bind fun bt149 => (if 0 ≤ bt149.1 then (if bt149.1 < (y146.length : Int) then (some (rd y146 bt149.1, bt149.2)) else (none)) else (none))) = some (r1, r2) := by first | (rw [hy146]; with_reducible exact H) | (have H2_ := (Option.bind_some _ _).symm.trans H; rw [hy146]; with_reducible exact H2_) | (have H2_ := (Option.bind_some _ _).symm.trans H; with_reducible exact H2_) | with_reducible exact H | (rw [hy146]; exact H) | exact H
    have Ny146 := Aside0.mk hy146
    clear hy146
    replace H := Option.bind_eq_some_iff.mp H
    obtain ⟨⟨t149, t150⟩, A50, H⟩ := H
    replace H : (if 0 ≤ t149 then (if t149 < (y146.length : Int) then (some (rd y146 t149, t150)) else (none)) else (none)) = some (r1, r2) := H
    have A5 := Aside0.mk A50
    clear A50
    by_cases c6 : 0 ≤ t149
    · rw [if_pos c6] at H
      have c6b0 : decide (0 ≤ t149) = true := decide_eq_true c6
      clear c6
      by_cases c7 : t149 < (y146.length : Int)
      · rw [if_pos c7] at H
        have c7b0 : decide (t149 < (y146.length : Int)) = true := decide_eq_true c7
        clear c7
        simp only [Option.some.injEq, Prod.mk.injEq] at H
        obtain ⟨rfl, rfl⟩ := H
        go_enter Try.func123, Try.ntmps123
        go_wp2_with (first | ((with_reducible refine gate_callee (f := 125) rfl ?_); refine gsl (some 7) rfl Try.func125 #[.pointer (some ⟨g, 0, none⟩), .int .i64 a1] rfl ?_; (with_reducible refine (spec_l20Rd_odd.calls k g s0_0 s0_1 a1 true t145 w0 _ ?side1 ?side2 A3.out).mono ?_); (case side1 => exact spec_l20Value.s0 HI0.out); (case side2 => exact spec_l20Value.s1 HB.out HI0.out); rintro e w8 ⟨rfl, hi, hb, hk⟩; refine ⟨_, rfl, ?_⟩; have n0_ := Aside0.mk (KeepBut.trans (spec_l20Value.s2 HK.out) hk (.inl rfl)); have n1_ := Aside0.mk (hb); have n2_ := Aside0.mk (hi); clear HK; clear HB; clear HI0; have HK := n0_; have HB := n1_; have HI0 := n2_; clear n0_ n1_ n2_; (try clear hb); (try clear hb2); (try clear hk); (try clear hi)) | ((with_reducible refine gate_dst (N := 8) rfl ?_); refine Kd.R_lit (Kd.int .i64) _ 3 ?hg (N := 8) ?hd (xs := ([(-1), 1000] : List Int)) (inner := [.int .i64 (-1), .int .i64 1000]) (ok := fun _ => True) (okp := fun _ => True) ?hr ?hp (fun _ hk => hk) trivial (Below.refl _ _) (Nat.le_refl _) (by simp) ?_; (case hd => rfl); (case hg => rfl); (case hr => first | (go_simp; done) | (go_simp; rfl)); (case hp => exact (Reps.one (show Kd.M (Kd.int .i64) _ _ _ (-1) [.int .i64 (-1)] from rfl) (Reps.one (show Kd.M (Kd.int .i64) _ _ _ 1000 [.int .i64 1000] from rfl) (Reps.none _ _)))); intro v147 w9 ho10 hb hg_ hnew_; clear hg_ hnew_; (first | rw [← Ny146.out] at ho10 | (simp only [Int.reduceToNat] at ho10; rw [← Ny146.out] at ho10)); have n0_ := Aside0.mk (Kd.R_lower ho10 (keep_size (w := w) (g := g) (row := none) (spec_l20Value.s2 HK.out))); have n1_ := Aside0.mk (IsS147.below (spec_l20Value.s0 HI0.out) hb); have n2_ := Aside0.mk (KeepBut.trans (spec_l20Value.s2 HK.out) (KeepBut.of_below hb g none) (.inl rfl)); have n3_ := Aside0.mk (below_step (spec_l20Value.s1 HB.out HI0.out) hb); clear HI0; clear HK; clear HB; have HO148 := n0_; have HI0 := n1_; have HK := n2_; have HB := n3_; clear n0_ n1_ n2_ n3_; clear hb ho10) | ((with_reducible refine gate_callee (f := 78) rfl ?_); refine gsl (some 10) rfl Try.func78 #[.pointer (some ⟨g, 0, none⟩), .int .i64 2] rfl ?_; (with_reducible refine (spec_l20Rd_pick.calls k g s0_0 t145 2 t149 t150 w0 _ ?side1 ?side2 A5.out).mono ?_); (case side1 => exact spec_l20Value.s0 HI0.out); (case side2 => exact spec_l20Value.s1 HB.out HI0.out); rintro e w11 ⟨rfl, hi, hb, hk⟩; refine ⟨_, rfl, ?_⟩; have n0_ := Aside0.mk (Kd.R_mono (Kd.R_keep (IsS147.apart (show IsS147 w0 _ g s0_0 t145 from spec_l20Value.s0 HI0.out) (kr HO148.out) (by decide)) hk (fun _ h => h.2)) (fun _ h => h.1)); have n1_ := Aside0.mk (KeepBut.trans (spec_l20Value.s2 HK.out) hk (.inl rfl)); have n2_ := Aside0.mk (hb); have n3_ := Aside0.mk (hi); clear HO148; clear HK; clear HB; clear HI0; have HO148 := n0_; have HK := n1_; have HB := n2_; have HI0 := n3_; clear n0_ n1_ n2_ n3_; (try clear hb); (try clear hb2); (try clear hk); (try clear hi); obtain ⟨Ao12, co12, eo12⟩ := Kd.R_slice HO148.out; subst eo12; have p151 : 0 ≤ (t149 : Int) := of_decide_eq_true (by first | (with_reducible assumption) | assumption); have q151 : t149 < (y146.length : Int) := of_decide_eq_true (by first | (with_reducible assumption) | assumption); obtain ⟨ad151, e151, hx151_0⟩ := Kd.at_int (Kd.R_reads' HO148.out).2.2 t149 p151 q151; cases e151; replace p151 := eq_true p151; replace q151 := eq_true q151))
        go_ret
        exact ⟨fe, spec_l20Value.s0 HI0.out, spec_l20Value.s1 HB.out HI0.out, spec_l20Value.s2 HK.out⟩
      · rw [if_neg c7] at H
        exact absurd H (by simp)
    · rw [if_neg c6] at H
      exact absurd H (by simp)
  · replace c4 := Bool.eq_false_iff.mpr c4
    subst c4
    have H1 : ((spec_l20Rd_pick.f k s0_0 t145 20).bind fun bt152 => ((some (([bt152.1, 999] : List Int) : List Int)).bind fun y154 => ((spec_l20Rd_pick.f k s0_0 bt152.2 9).bind fun bt157 => (if 0 ≤ (wrap64 (Int.tdiv bt157.1 8)) then (if (wrap64 (Int.tdiv bt157.1 8)) < (y154.length : Int) then (some (rd y154 (wrap64 (Int.tdiv bt157.1 8)), bt157.2)) else (none)) else (none))))) = some (r1, r2) := by rw [if_neg (show ¬ (false = true) by decide)] at H; exact H
    clear H
    have H := H1
    clear H1
    replace H := Option.bind_eq_some_iff.mp H
    obtain ⟨⟨t152, t153⟩, A130, H⟩ := H
    replace H : ((some (([t152, 999] : List Int) : List Int)).bind fun y154 => ((spec_l20Rd_pick.f k s0_0 t153 9).bind fun bt157 => (if 0 ≤ (wrap64 (Int.tdiv bt157.1 8)) then (if (wrap64 (Int.tdiv bt157.1 8)) < (y154.length : Int) then (some (rd y154 (wrap64 (Int.tdiv bt157.1 8)), bt157.2)) else (none)) else (none)))) = some (r1, r2) := H
    have A13 := Aside0.mk A130
    clear A130
    obtain ⟨y154, hy154⟩ : ∃ y_ : List Int, y_ = (([t152, 999] : List Int)) := ⟨_, rfl⟩
    replace H : ((spec_l20Rd_pick.f k s0_0 t153 9).bind fun bt157 => (if 0 ≤ (wrap64 (Int.tdiv bt157.1 8)) then (if (wrap64 (Int.tdiv bt157.1 8)) < (y154.length : Int) then (some (rd y154 (wrap64 (Int.tdiv bt157.1 8)), bt157.2)) else (none)) else (none))) = some (r1, r2) := by first | (rw [hy154]; with_reducible exact H) | (have H2_ := (Option.bind_some _ _).symm.trans H; rw [hy154]; with_reducible exact H2_) | (have H2_ := (Option.bind_some _ _).symm.trans H; with_reducible exact H2_) | with_reducible exact H | (rw [hy154]; exact H) | exact H
    have Ny154 := Aside0.mk hy154
    clear hy154
    replace H := Option.bind_eq_some_iff.mp H
    obtain ⟨⟨t157, t158⟩, A140, H⟩ := H
    replace H : (if 0 ≤ (wrap64 (Int.tdiv t157 8)) then (if (wrap64 (Int.tdiv t157 8)) < (y154.length : Int) then (some (rd y154 (wrap64 (Int.tdiv t157 8)), t158)) else (none)) else (none)) = some (r1, r2) := H
    have A14 := Aside0.mk A140
    clear A140
    obtain ⟨ji15, hji15⟩ : ∃ j_ : Int, (wrap64 (Int.tdiv t157 8)) = j_ := ⟨_, rfl⟩
    replace H : (if 0 ≤ (ji15) then (if (ji15) < (y154.length : Int) then (some (rd y154 (ji15), t158)) else (none)) else (none)) = some (r1, r2) := by first | (rw [hji15] at H; exact H) | (simp only [hji15] at H ⊢; exact H)
    (try rw [hji15] at A3)
    (try rw [hji15] at A13)
    (try rw [hji15] at A14)
    have hji15w : (IntKind.i64.wrap (Int.tdiv t157 8)) = ji15 := (i64_w _).trans hji15
    by_cases c16 : 0 ≤ (ji15)
    · rw [if_pos c16] at H
      have c16b0 : decide (0 ≤ (ji15)) = true := decide_eq_true c16
      clear c16
      by_cases c17 : (ji15) < (y154.length : Int)
      · rw [if_pos c17] at H
        have c17b0 : decide ((ji15) < (y154.length : Int)) = true := decide_eq_true c17
        clear c17
        simp only [Option.some.injEq, Prod.mk.injEq] at H
        obtain ⟨rfl, rfl⟩ := H
        go_enter Try.func123, Try.ntmps123
        go_wp2_with (first | ((with_reducible refine gate_callee (f := 125) rfl ?_); refine gsl (some 7) rfl Try.func125 #[.pointer (some ⟨g, 0, none⟩), .int .i64 a1] rfl ?_; (with_reducible refine (spec_l20Rd_odd.calls k g s0_0 s0_1 a1 false t145 w0 _ ?side1 ?side2 A3.out).mono ?_); (case side1 => exact spec_l20Value.s0 HI0.out); (case side2 => exact spec_l20Value.s1 HB.out HI0.out); rintro e w18 ⟨rfl, hi, hb, hk⟩; refine ⟨_, rfl, ?_⟩; have n0_ := Aside0.mk (KeepBut.trans (spec_l20Value.s2 HK.out) hk (.inl rfl)); have n1_ := Aside0.mk (hb); have n2_ := Aside0.mk (hi); clear HK; clear HB; clear HI0; have HK := n0_; have HB := n1_; have HI0 := n2_; clear n0_ n1_ n2_; (try clear hb); (try clear hb2); (try clear hk); (try clear hi)) | ((with_reducible refine gate_callee (f := 78) rfl ?_); refine gsl (some 14) rfl Try.func78 #[.pointer (some ⟨g, 0, none⟩), .int .i64 20] rfl ?_; (with_reducible refine (spec_l20Rd_pick.calls k g s0_0 t145 20 t152 t153 w0 _ ?side1 ?side2 A13.out).mono ?_); (case side1 => exact spec_l20Value.s0 HI0.out); (case side2 => exact spec_l20Value.s1 HB.out HI0.out); rintro e w19 ⟨rfl, hi, hb, hk⟩; refine ⟨_, rfl, ?_⟩; have n0_ := Aside0.mk (KeepBut.trans (spec_l20Value.s2 HK.out) hk (.inl rfl)); have n1_ := Aside0.mk (hb); have n2_ := Aside0.mk (hi); clear HK; clear HB; clear HI0; have HK := n0_; have HB := n1_; have HI0 := n2_; clear n0_ n1_ n2_; (try clear hb); (try clear hb2); (try clear hk); (try clear hi)) | ((with_reducible refine gate_dst (N := 15) rfl ?_); refine Kd.R_lit (Kd.int .i64) _ 3 ?hg (N := 15) ?hd (xs := ([t152, 999] : List Int)) (inner := [.int .i64 t152, .int .i64 999]) (ok := fun _ => True) (okp := fun _ => True) ?hr ?hp (fun _ hk => hk) trivial (Below.refl _ _) (Nat.le_refl _) (by simp) ?_; (case hd => rfl); (case hg => rfl); (case hr => first | (go_simp; done) | (go_simp; rfl)); (case hp => exact (Reps.one (show Kd.M (Kd.int .i64) _ _ _ t152 [.int .i64 t152] from rfl) (Reps.one (show Kd.M (Kd.int .i64) _ _ _ 999 [.int .i64 999] from rfl) (Reps.none _ _)))); intro v155 w20 ho21 hb hg_ hnew_; clear hg_ hnew_; (first | rw [← Ny154.out] at ho21 | (simp only [Int.reduceToNat] at ho21; rw [← Ny154.out] at ho21)); have n0_ := Aside0.mk (Kd.R_lower ho21 (keep_size (w := w) (g := g) (row := none) (spec_l20Value.s2 HK.out))); have n1_ := Aside0.mk (IsS147.below (spec_l20Value.s0 HI0.out) hb); have n2_ := Aside0.mk (KeepBut.trans (spec_l20Value.s2 HK.out) (KeepBut.of_below hb g none) (.inl rfl)); have n3_ := Aside0.mk (below_step (spec_l20Value.s1 HB.out HI0.out) hb); clear HI0; clear HK; clear HB; have HO156 := n0_; have HI0 := n1_; have HK := n2_; have HB := n3_; clear n0_ n1_ n2_ n3_; clear hb ho21) | ((with_reducible refine gate_callee (f := 78) rfl ?_); refine gsl (some 17) rfl Try.func78 #[.pointer (some ⟨g, 0, none⟩), .int .i64 9] rfl ?_; (with_reducible refine (spec_l20Rd_pick.calls k g s0_0 t153 9 t157 t158 w0 _ ?side1 ?side2 A14.out).mono ?_); (case side1 => exact spec_l20Value.s0 HI0.out); (case side2 => exact spec_l20Value.s1 HB.out HI0.out); rintro e w22 ⟨rfl, hi, hb, hk⟩; refine ⟨_, rfl, ?_⟩; have n0_ := Aside0.mk (Kd.R_mono (Kd.R_keep (IsS147.apart (show IsS147 w0 _ g s0_0 t153 from spec_l20Value.s0 HI0.out) (kr HO156.out) (by decide)) hk (fun _ h => h.2)) (fun _ h => h.1)); have n1_ := Aside0.mk (KeepBut.trans (spec_l20Value.s2 HK.out) hk (.inl rfl)); have n2_ := Aside0.mk (hb); have n3_ := Aside0.mk (hi); clear HO156; clear HK; clear HB; clear HI0; have HO156 := n0_; have HK := n1_; have HB := n2_; have HI0 := n3_; clear n0_ n1_ n2_ n3_; (try clear hb); (try clear hb2); (try clear hk); (try clear hi); obtain ⟨Ao23, co23, eo23⟩ := Kd.R_slice HO156.out; subst eo23; have p159 : 0 ≤ ((ji15) : Int) := of_decide_eq_true (by first | (with_reducible assumption) | assumption); have q159 : (ji15) < (y154.length : Int) := of_decide_eq_true (by first | (with_reducible assumption) | assumption); obtain ⟨ad159, e159, hx159_0⟩ := Kd.at_int (Kd.R_reads' HO156.out).2.2 (ji15) p159 q159; cases e159; replace p159 := eq_true p159; replace q159 := eq_true q159))
        go_ret
        exact ⟨by first | rfl | (simp [errW_none, errW_some] <;> rfl) | (simp only [← hji15]; first | rfl | (simp [errW_none, errW_some] <;> rfl)) | (simp [*, errW_none, errW_some] <;> rfl) | (simp only [IntKind.wrap_u8, show ∀ n_ : Int, wrap64 (n_ % 256) = n_ % 256 from fun n_ => by unfold wrap64; omega]; rfl), spec_l20Value.s0 HI0.out, spec_l20Value.s1 HB.out HI0.out, spec_l20Value.s2 HK.out⟩
      · rw [if_neg c17] at H
        exact absurd H (by simp)
    · rw [if_neg c16] at H
      exact absurd H (by simp)

/-! ### spec_l20Cmd: function 129 -/
def spec_l20Cmd.j0 : Nat → ByteArray → List Int → Int → Option (Int × ByteArray × Int × Int × Int)
  | 0, _, _, _ => none
  | k + 1, x5, x1000, x1001 => (spec_l20Rd_pick.f k x1000 x1001 8).bind fun bt179 => (if bt179.1 = 0 then (some (1, x5, 0, 0, bt179.2)) else (if bt179.1 = 1 then (some (3, x5, 0, 0, bt179.2)) else (if bt179.1 = 2 then ((spec_l20Rd_pick.f k x1000 bt179.2 5).bind fun bt181 => ((spec_l20Rd_pick.f k x1000 bt181.2 5).bind fun bt183 => (some (4, x5, bt183.1, wrap64 (bt181.1 - 1), bt183.2)))) else ((spec_l20Value.f k x1000 bt179.2 0).bind fun bt185 => (some (2, x5, Int.tmod bt185.1 1000, 0, bt185.2))))))
def spec_l20Cmd.f (k : Nat) (s0_0 : List Int) (s0_1 : Int) (a1 : Int) : Option (Int × ByteArray × Int × Int × Int) := (spec_l20Rd_odd.f k s0_0 s0_1 a1).bind fun bt161 => (if bt161.1 = true then ((some (([(⟨0, (⟨#[]⟩ : ByteArray), 0, 0⟩ : S40), (⟨1, (⟨#[]⟩ : ByteArray), 0, 0⟩ : S40), (⟨1, (⟨#[98]⟩ : ByteArray), 1, 0⟩ : S40), (⟨2, (⟨#[98]⟩ : ByteArray), 1000, 0⟩ : S40), (⟨2, (⟨#[98]⟩ : ByteArray), 0, 1⟩ : S40), (⟨4, (⟨#[98]⟩ : ByteArray), 0, (-2)⟩ : S40), (⟨4, (⟨#[98]⟩ : ByteArray), (-1), 0⟩ : S40), (⟨6, (⟨#[98]⟩ : ByteArray), 0, 0⟩ : S40), (⟨3, (⟨#[65]⟩ : ByteArray), 0, 0⟩ : S40), (⟨5, (⟨#[98, 49]⟩ : ByteArray), 0, 0⟩ : S40)] : List (S40)) : List (S40))).bind fun y163 => ((spec_l20Rd_pick.f k s0_0 bt161.2 10).bind fun bt166 => (if 0 ≤ bt166.1 then (if bt166.1 < (y163.length : Int) then (some ((rd_T40 y163 bt166.1).f0, (rd_T40 y163 bt166.1).f1, (rd_T40 y163 bt166.1).f2, (rd_T40 y163 bt166.1).f3, bt166.2)) else (none)) else (none)))) else ((spec_l20Key.f k s0_0 bt161.2 0).bind fun bt169 => ((spec_l20Rd_pick.f k s0_0 bt169.2 2).bind fun bt171 => (if bt171.1 = 0 then ((some (([(⟨#[98]⟩ : ByteArray), (⟨#[99]⟩ : ByteArray), (⟨#[100]⟩ : ByteArray), (⟨#[109]⟩ : ByteArray)] : List ByteArray) : List ByteArray)).bind fun y173 => ((spec_l20Rd_pick.f k s0_0 bt171.2 4).bind fun bt176 => (if 0 ≤ bt176.1 then (if bt176.1 < (y173.length : Int) then (spec_l20Cmd.j0 k (rdOf ByteArray.empty y173 bt176.1) s0_0 bt176.2) else (none)) else (none)))) else (spec_l20Cmd.j0 k bt169.1 s0_0 bt171.2)))))
theorem spec_l20Cmd.mono_l : ∀ k, (∀ y0 y1 y2, LeO (spec_l20Cmd.j0 k y0 y1 y2) (spec_l20Cmd.j0 (k + 1) y0 y1 y2))
  | 0 => fun _ _ _ r h => by simp [spec_l20Cmd.j0] at h
  | k + 1 => by
    have ih0 := spec_l20Cmd.mono_l k
    · intro y0 y1 y2
      unfold spec_l20Cmd.j0
      repeat' first
      | (with_reducible exact ih0 _ _ _)
      | (with_reducible exact spec_l20Key.mono _ _ _ _)
      | (with_reducible exact spec_l20Rd_odd.mono _ _ _ _)
      | (with_reducible exact spec_l20Rd_pick.mono _ _ _ _)
      | (with_reducible exact spec_l20Value.mono _ _ _ _)
      | (with_reducible exact LeO.refl _)
      | (with_reducible exact LeO.none _)
      | (with_reducible refine LeO.ite ?_ ?_)
      | (with_reducible refine LeO.bind ?_ (fun _ => ?_))
      | exact ih0 _ _ _
      | exact spec_l20Key.mono _ _ _ _
      | exact spec_l20Rd_odd.mono _ _ _ _
      | exact spec_l20Rd_pick.mono _ _ _ _
      | exact spec_l20Value.mono _ _ _ _
      | exact LeO.none _
      | refine LeO.ite ?_ ?_
      | refine LeO.bind ?_ (fun _ => ?_)
theorem spec_l20Cmd.mono : ∀ a0 a1 a2 k, LeO (spec_l20Cmd.f k a0 a1 a2) (spec_l20Cmd.f (k + 1) a0 a1 a2) := by
  intro a0 a1 a2 k
  have ih0 := spec_l20Cmd.mono_l k
  unfold spec_l20Cmd.f
  repeat' first
      | (with_reducible exact ih0 _ _ _)
      | (with_reducible exact spec_l20Key.mono _ _ _ _)
      | (with_reducible exact spec_l20Rd_odd.mono _ _ _ _)
      | (with_reducible exact spec_l20Rd_pick.mono _ _ _ _)
      | (with_reducible exact spec_l20Value.mono _ _ _ _)
      | (with_reducible exact LeO.refl _)
      | (with_reducible exact LeO.none _)
      | (with_reducible refine LeO.ite ?_ ?_)
      | (with_reducible refine LeO.bind ?_ (fun _ => ?_))
      | exact ih0 _ _ _
      | exact spec_l20Key.mono _ _ _ _
      | exact spec_l20Rd_odd.mono _ _ _ _
      | exact spec_l20Rd_pick.mono _ _ _ _
      | exact spec_l20Value.mono _ _ _ _
      | exact LeO.none _
      | refine LeO.ite ?_ ?_
      | refine LeO.bind ?_ (fun _ => ?_)
theorem spec_l20Cmd.s0 {P0 Q : Prop} (B0 : P0) (h : P0 → Q := by (intro b0_; repeat (first | (with_reducible first | exact b0_ | apply IsS147.alloc | apply IsS147.drewN | apply IsS147.drew | apply IsS147.set_1) | exact b0_))) : Q := h B0
theorem spec_l20Cmd.s1 {P0 Q : Prop} (B0 : P0) (h : P0 → Q := by (intro b0_; repeat (first | (with_reducible first | exact b0_ | apply KeepBut.set_ | apply keep_drewN | apply keep_drew | apply keep_alloc) | exact b0_))) : Q := h B0
theorem spec_l20Cmd.s2 {P0 P1 Q : Prop} (B0 : P0) (B1 : P1) (h : P0 → P1 → Q := by (intro b0_ b1_; repeat (first | (with_reducible first | exact b0_ | apply below_alloc | apply pw_below_drewN | apply below_drew1 | refine below_set ?_ (IsS147.ge b1_)) | exact b0_))) : Q := h B0 B1
theorem spec_l20Cmd.s3 {P0 P1 Q : Prop} (B0 : P0) (B1 : P1) (h : P0 → P1 → Q := by (intro b0_ b1_; repeat (first | (with_reducible first | exact b0_ | apply IsS147.alloc | apply IsS147.drewN | apply IsS147.drew | apply IsS147.set_1 | refine IsS147.far ?_ b1_ _) | exact b0_))) : Q := h B0 B1
theorem spec_l20Cmd.s4 {P0 P1 P2 Q : Prop} (B0 : P0) (B1 : P1) (B2 : P2) (h : P0 → P1 → P2 → Q := by (intro b0_ b1_ b2_; repeat (first | (with_reducible first | exact b0_ | apply below_alloc | apply pw_below_drewN | apply below_drew1 | refine below_set ?_ (IsS147.ge b1_) | refine below_set ?_ b2_) | exact b0_))) : Q := h B0 B1 B2
theorem spec_l20Cmd.s5 {P0 P1 Q : Prop} (B0 : P0) (B1 : P1) (h : P0 → P1 → Q := by (intro b0_ b1_; repeat (first | (with_reducible first | exact b0_ | apply KeepBut.set_ | apply keep_drewN | apply keep_drew | apply keep_alloc | refine keep_far ?_ b1_ _) | exact b0_))) : Q := h B0 B1
set_option maxHeartbeats 8000000 in
set_option maxRecDepth 100000 in
theorem spec_l20Cmd.calls (k : Nat) (g : Nat) (s0_0 : List Int) (s0_1 : Int) (a1 : Int) (r1 : Int) (r2 : ByteArray) (r3 : Int) (r4 : Int) (r5 : Int) (w0 w : World) (hI : IsS147 w0 w g s0_0 s0_1) (hB : Below w0.heap.size w0 w) (h : spec_l20Cmd.f k s0_0 s0_1 a1 = some (r1, r2, r3, r4, r5)) :
    Calls Try.prog 129 #[.pointer (some ⟨g, 0, none⟩), .int .i64 a1] w fun e w' => e = .returned (.agg #[.int .i64 r1, .string r2, .int .i64 r3, .int .i64 r4]) ∧ IsS147 w0 w' g s0_0 r5 ∧ Below w0.heap.size w0 w' ∧ KeepBut w w' g none := by
  have hu40 := Try.underlying40
  have HI0 := Aside0.mk hI
  have HK := Aside0.mk (KeepBut.refl w g none)
  have HL := Aside0.mk hB.size
  clear hI
  have HW0 := Aside0.mk hB.size
  have HB := Aside0.mk hB
  clear hB
  have H : ((spec_l20Rd_odd.f k s0_0 s0_1 a1).bind fun bt161 => (if bt161.1 = true then ((some (([(⟨0, (⟨#[]⟩ : ByteArray), 0, 0⟩ : S40), (⟨1, (⟨#[]⟩ : ByteArray), 0, 0⟩ : S40), (⟨1, (⟨#[98]⟩ : ByteArray), 1, 0⟩ : S40), (⟨2, (⟨#[98]⟩ : ByteArray), 1000, 0⟩ : S40), (⟨2, (⟨#[98]⟩ : ByteArray), 0, 1⟩ : S40), (⟨4, (⟨#[98]⟩ : ByteArray), 0, (-2)⟩ : S40), (⟨4, (⟨#[98]⟩ : ByteArray), (-1), 0⟩ : S40), (⟨6, (⟨#[98]⟩ : ByteArray), 0, 0⟩ : S40), (⟨3, (⟨#[65]⟩ : ByteArray), 0, 0⟩ : S40), (⟨5, (⟨#[98, 49]⟩ : ByteArray), 0, 0⟩ : S40)] : List (S40)) : List (S40))).bind fun y163 => ((spec_l20Rd_pick.f k s0_0 bt161.2 10).bind fun bt166 => (if 0 ≤ bt166.1 then (if bt166.1 < (y163.length : Int) then (some ((rd_T40 y163 bt166.1).f0, (rd_T40 y163 bt166.1).f1, (rd_T40 y163 bt166.1).f2, (rd_T40 y163 bt166.1).f3, bt166.2)) else (none)) else (none)))) else ((spec_l20Key.f k s0_0 bt161.2 0).bind fun bt169 => ((spec_l20Rd_pick.f k s0_0 bt169.2 2).bind fun bt171 => (if bt171.1 = 0 then ((some (([(⟨#[98]⟩ : ByteArray), (⟨#[99]⟩ : ByteArray), (⟨#[100]⟩ : ByteArray), (⟨#[109]⟩ : ByteArray)] : List ByteArray) : List ByteArray)).bind fun y173 => ((spec_l20Rd_pick.f k s0_0 bt171.2 4).bind fun bt176 => (if 0 ≤ bt176.1 then (if bt176.1 < (y173.length : Int) then (spec_l20Cmd.j0 k (rdOf ByteArray.empty y173 bt176.1) s0_0 bt176.2) else (none)) else (none)))) else (spec_l20Cmd.j0 k bt169.1 s0_0 bt171.2)))))) = some (r1, r2, r3, r4, r5) := h
  clear h
  replace H := Option.bind_eq_some_iff.mp H
  obtain ⟨⟨t161, t162⟩, A30, H⟩ := H
  replace H : (if t161 = true then ((some (([(⟨0, (⟨#[]⟩ : ByteArray), 0, 0⟩ : S40), (⟨1, (⟨#[]⟩ : ByteArray), 0, 0⟩ : S40), (⟨1, (⟨#[98]⟩ : ByteArray), 1, 0⟩ : S40), (⟨2, (⟨#[98]⟩ : ByteArray), 1000, 0⟩ : S40), (⟨2, (⟨#[98]⟩ : ByteArray), 0, 1⟩ : S40), (⟨4, (⟨#[98]⟩ : ByteArray), 0, (-2)⟩ : S40), (⟨4, (⟨#[98]⟩ : ByteArray), (-1), 0⟩ : S40), (⟨6, (⟨#[98]⟩ : ByteArray), 0, 0⟩ : S40), (⟨3, (⟨#[65]⟩ : ByteArray), 0, 0⟩ : S40), (⟨5, (⟨#[98, 49]⟩ : ByteArray), 0, 0⟩ : S40)] : List (S40)) : List (S40))).bind fun y163 => ((spec_l20Rd_pick.f k s0_0 t162 10).bind fun bt166 => (if 0 ≤ bt166.1 then (if bt166.1 < (y163.length : Int) then (some ((rd_T40 y163 bt166.1).f0, (rd_T40 y163 bt166.1).f1, (rd_T40 y163 bt166.1).f2, (rd_T40 y163 bt166.1).f3, bt166.2)) else (none)) else (none)))) else ((spec_l20Key.f k s0_0 t162 0).bind fun bt169 => ((spec_l20Rd_pick.f k s0_0 bt169.2 2).bind fun bt171 => (if bt171.1 = 0 then ((some (([(⟨#[98]⟩ : ByteArray), (⟨#[99]⟩ : ByteArray), (⟨#[100]⟩ : ByteArray), (⟨#[109]⟩ : ByteArray)] : List ByteArray) : List ByteArray)).bind fun y173 => ((spec_l20Rd_pick.f k s0_0 bt171.2 4).bind fun bt176 => (if 0 ≤ bt176.1 then (if bt176.1 < (y173.length : Int) then (spec_l20Cmd.j0 k (rdOf ByteArray.empty y173 bt176.1) s0_0 bt176.2) else (none)) else (none)))) else (spec_l20Cmd.j0 k bt169.1 s0_0 bt171.2))))) = some (r1, r2, r3, r4, r5) := H
  have A3 := Aside0.mk A30
  clear A30
  by_cases c4 : t161 = true
  · subst c4
    have H1 : ((some (([(⟨0, (⟨#[]⟩ : ByteArray), 0, 0⟩ : S40), (⟨1, (⟨#[]⟩ : ByteArray), 0, 0⟩ : S40), (⟨1, (⟨#[98]⟩ : ByteArray), 1, 0⟩ : S40), (⟨2, (⟨#[98]⟩ : ByteArray), 1000, 0⟩ : S40), (⟨2, (⟨#[98]⟩ : ByteArray), 0, 1⟩ : S40), (⟨4, (⟨#[98]⟩ : ByteArray), 0, (-2)⟩ : S40), (⟨4, (⟨#[98]⟩ : ByteArray), (-1), 0⟩ : S40), (⟨6, (⟨#[98]⟩ : ByteArray), 0, 0⟩ : S40), (⟨3, (⟨#[65]⟩ : ByteArray), 0, 0⟩ : S40), (⟨5, (⟨#[98, 49]⟩ : ByteArray), 0, 0⟩ : S40)] : List (S40)) : List (S40))).bind fun y163 => ((spec_l20Rd_pick.f k s0_0 t162 10).bind fun bt166 => (if 0 ≤ bt166.1 then (if bt166.1 < (y163.length : Int) then (some ((rd_T40 y163 bt166.1).f0, (rd_T40 y163 bt166.1).f1, (rd_T40 y163 bt166.1).f2, (rd_T40 y163 bt166.1).f3, bt166.2)) else (none)) else (none)))) = some (r1, r2, r3, r4, r5) := by rw [if_pos rfl] at H; exact H
    clear H
    have H := H1
    clear H1
    obtain ⟨y163, hy163⟩ : ∃ y_ : List (S40), y_ = (([(⟨0, (⟨#[]⟩ : ByteArray), 0, 0⟩ : S40), (⟨1, (⟨#[]⟩ : ByteArray), 0, 0⟩ : S40), (⟨1, (⟨#[98]⟩ : ByteArray), 1, 0⟩ : S40), (⟨2, (⟨#[98]⟩ : ByteArray), 1000, 0⟩ : S40), (⟨2, (⟨#[98]⟩ : ByteArray), 0, 1⟩ : S40), (⟨4, (⟨#[98]⟩ : ByteArray), 0, (-2)⟩ : S40), (⟨4, (⟨#[98]⟩ : ByteArray), (-1), 0⟩ : S40), (⟨6, (⟨#[98]⟩ : ByteArray), 0, 0⟩ : S40), (⟨3, (⟨#[65]⟩ : ByteArray), 0, 0⟩ : S40), (⟨5, (⟨#[98, 49]⟩ : ByteArray), 0, 0⟩ : S40)] : List (S40))) := ⟨_, rfl⟩
    replace H : ((spec_l20Rd_pick.f k s0_0 t162 10).bind fun bt166 => (if 0 ≤ bt166.1 then (if bt166.1 < (y163.length : Int) then (some ((rd_T40 y163 bt166.1).f0, (rd_T40 y163 bt166.1).f1, (rd_T40 y163 bt166.1).f2, (rd_T40 y163 bt166.1).f3, bt166.2)) else (none)) else (none))) = some (r1, r2, r3, r4, r5) := by first | (rw [hy163]; with_reducible exact H) | (have H2_ := (Option.bind_some _ _).symm.trans H; rw [hy163]; with_reducible exact H2_) | (have H2_ := (Option.bind_some _ _).symm.trans H; with_reducible exact H2_) | with_reducible exact H | (rw [hy163]; exact H) | exact H
    have Ny163 := Aside0.mk hy163
    clear hy163
    replace H := Option.bind_eq_some_iff.mp H
    obtain ⟨⟨t166, t167⟩, A50, H⟩ := H
    replace H : (if 0 ≤ t166 then (if t166 < (y163.length : Int) then (some ((rd_T40 y163 t166).f0, (rd_T40 y163 t166).f1, (rd_T40 y163 t166).f2, (rd_T40 y163 t166).f3, t167)) else (none)) else (none)) = some (r1, r2, r3, r4, r5) := H
    have A5 := Aside0.mk A50
    clear A50
    by_cases c6 : 0 ≤ t166
    · rw [if_pos c6] at H
      have c6b0 : decide (0 ≤ t166) = true := decide_eq_true c6
      clear c6
      by_cases c7 : t166 < (y163.length : Int)
      · rw [if_pos c7] at H
        have c7b0 : decide (t166 < (y163.length : Int)) = true := decide_eq_true c7
        clear c7
        simp only [Option.some.injEq, Prod.mk.injEq] at H
        obtain ⟨rfl, rfl, rfl, rfl, rfl⟩ := H
        go_enter Try.func129, Try.ntmps129
        go_wp2_with (first | ((with_reducible refine gate_dst (N := 4) rfl ?_); refine bxe (N := 4) (cs := #[.int .i64 0, .string (⟨#[]⟩ : ByteArray), .int .i64 0, .int .i64 0]) (t := 40) ?_; intro gb160 hg w8 hbox hb; have n0_ := Aside0.mk (IsS147.below (spec_l20Cmd.s0 HI0.out) hb); have n1_ := Aside0.mk (KeepBut.trans (spec_l20Cmd.s1 HK.out) (KeepBut.of_below hb g none) (.inl rfl)); have n2_ := Aside0.mk (below_step (spec_l20Cmd.s2 HB.out HI0.out) hb); have n3_ := Aside0.mk (hbox); have n4_ := Aside0.mk ((by rw [hg]; exact (keep_size (w := w) (g := g) (row := none) (spec_l20Cmd.s1 HK.out)) : w.heap.size ≤ gb160)); have n5_ := Aside0.mk ((Nat.le_trans HW0.out (by rw [hg]; exact (keep_size (w := w) (g := g) (row := none) (spec_l20Cmd.s1 HK.out)) : w.heap.size ≤ gb160) : w0.heap.size ≤ gb160)); have n6_ := Aside0.mk ((by rw [hg]; exact Nat.ne_of_lt (IsS147.lt (show IsS147 w0 _ g s0_0 s0_1 from spec_l20Cmd.s0 HI0.out)) : g ≠ gb160)); have n7_ := Aside0.mk ((by rw [hg]; exact Nat.ne_of_gt (IsS147.lt (show IsS147 w0 _ g s0_0 s0_1 from spec_l20Cmd.s0 HI0.out)) : gb160 ≠ g)); clear HI0; clear HK; clear HB; have HI0 := n0_; have HK := n1_; have HB := n2_; have BK160 := n3_; have GW160 := n4_; have GE160 := n5_; have NB0_160 := n6_; have NB160_0 := n7_; clear n0_ n1_ n2_ n3_ n4_ n5_ n6_ n7_; clear hb hbox hg) | ((with_reducible refine gate_callee (f := 125) rfl ?_); refine gsl (some 8) rfl Try.func125 #[.pointer (some ⟨g, 0, none⟩), .int .i64 a1] rfl ?_; (with_reducible refine (spec_l20Rd_odd.calls k g s0_0 s0_1 a1 true t162 w0 _ ?side1 ?side2 A3.out).mono ?_); (case side1 => exact spec_l20Cmd.s3 HI0.out NB0_160.out); (case side2 => exact spec_l20Cmd.s4 HB.out HI0.out GE160.out); rintro e w9 ⟨rfl, hi, hb, hk⟩; refine ⟨_, rfl, ?_⟩; have n0_ := Aside0.mk (KeepBut.blk hk (g' := gb160) (o := .cells #[.int .i64 0, .string (⟨#[]⟩ : ByteArray), .int .i64 0, .int .i64 0] 40 (0, 0)) (kb BK160.out) NB160_0.out (by simp)); have n1_ := Aside0.mk (KeepBut.trans (spec_l20Cmd.s5 HK.out GW160.out) hk (.inl rfl)); have n2_ := Aside0.mk (hb); have n3_ := Aside0.mk (hi); clear BK160; clear HK; clear HB; clear HI0; have BK160 := n0_; have HK := n1_; have HB := n2_; have HI0 := n3_; clear n0_ n1_ n2_ n3_; (try clear hb); (try clear hb2); (try clear hk); (try clear hi)) | ((with_reducible refine gate_dst (N := 19) rfl ?_); refine Kd.R_lit k40 _ 40 ?hg (N := 19) ?hd (xs := ([(⟨0, (⟨#[]⟩ : ByteArray), 0, 0⟩ : S40), (⟨1, (⟨#[]⟩ : ByteArray), 0, 0⟩ : S40), (⟨1, (⟨#[98]⟩ : ByteArray), 1, 0⟩ : S40), (⟨2, (⟨#[98]⟩ : ByteArray), 1000, 0⟩ : S40), (⟨2, (⟨#[98]⟩ : ByteArray), 0, 1⟩ : S40), (⟨4, (⟨#[98]⟩ : ByteArray), 0, (-2)⟩ : S40), (⟨4, (⟨#[98]⟩ : ByteArray), (-1), 0⟩ : S40), (⟨6, (⟨#[98]⟩ : ByteArray), 0, 0⟩ : S40), (⟨3, (⟨#[65]⟩ : ByteArray), 0, 0⟩ : S40), (⟨5, (⟨#[98, 49]⟩ : ByteArray), 0, 0⟩ : S40)] : List (S40))) (inner := [.int .i64 0, .string (⟨#[]⟩ : ByteArray), .int .i64 0, .int .i64 0, .int .i64 1, .string (⟨#[]⟩ : ByteArray), .int .i64 0, .int .i64 0, .int .i64 1, .string (⟨#[98]⟩ : ByteArray), .int .i64 1, .int .i64 0, .int .i64 2, .string (⟨#[98]⟩ : ByteArray), .int .i64 1000, .int .i64 0, .int .i64 2, .string (⟨#[98]⟩ : ByteArray), .int .i64 0, .int .i64 1, .int .i64 4, .string (⟨#[98]⟩ : ByteArray), .int .i64 0, .int .i64 (-2), .int .i64 4, .string (⟨#[98]⟩ : ByteArray), .int .i64 (-1), .int .i64 0, .int .i64 6, .string (⟨#[98]⟩ : ByteArray), .int .i64 0, .int .i64 0, .int .i64 3, .string (⟨#[65]⟩ : ByteArray), .int .i64 0, .int .i64 0, .int .i64 5, .string (⟨#[98, 49]⟩ : ByteArray), .int .i64 0, .int .i64 0]) (ok := fun _ => True) (okp := fun _ => True) ?hr ?hp (fun _ hk => hk) trivial (Below.refl _ _) (Nat.le_refl _) (by simp) ?_; (case hd => rfl); (case hg => rfl); (case hr => first | (go_simp; done) | (go_simp; rfl)); (case hp => exact (Reps.c4 (show Kd.M k40 _ _ _ (⟨0, (⟨#[]⟩ : ByteArray), 0, 0⟩ : S40) [.int .i64 0, .string (⟨#[]⟩ : ByteArray), .int .i64 0, .int .i64 0] from (k40_mkM _ _ _ (⟨0, (⟨#[]⟩ : ByteArray), 0, 0⟩ : S40) )) (Reps.c4 (show Kd.M k40 _ _ _ (⟨1, (⟨#[]⟩ : ByteArray), 0, 0⟩ : S40) [.int .i64 1, .string (⟨#[]⟩ : ByteArray), .int .i64 0, .int .i64 0] from (k40_mkM _ _ _ (⟨1, (⟨#[]⟩ : ByteArray), 0, 0⟩ : S40) )) (Reps.c4 (show Kd.M k40 _ _ _ (⟨1, (⟨#[98]⟩ : ByteArray), 1, 0⟩ : S40) [.int .i64 1, .string (⟨#[98]⟩ : ByteArray), .int .i64 1, .int .i64 0] from (k40_mkM _ _ _ (⟨1, (⟨#[98]⟩ : ByteArray), 1, 0⟩ : S40) )) (Reps.c4 (show Kd.M k40 _ _ _ (⟨2, (⟨#[98]⟩ : ByteArray), 1000, 0⟩ : S40) [.int .i64 2, .string (⟨#[98]⟩ : ByteArray), .int .i64 1000, .int .i64 0] from (k40_mkM _ _ _ (⟨2, (⟨#[98]⟩ : ByteArray), 1000, 0⟩ : S40) )) (Reps.c4 (show Kd.M k40 _ _ _ (⟨2, (⟨#[98]⟩ : ByteArray), 0, 1⟩ : S40) [.int .i64 2, .string (⟨#[98]⟩ : ByteArray), .int .i64 0, .int .i64 1] from (k40_mkM _ _ _ (⟨2, (⟨#[98]⟩ : ByteArray), 0, 1⟩ : S40) )) (Reps.c4 (show Kd.M k40 _ _ _ (⟨4, (⟨#[98]⟩ : ByteArray), 0, (-2)⟩ : S40) [.int .i64 4, .string (⟨#[98]⟩ : ByteArray), .int .i64 0, .int .i64 (-2)] from (k40_mkM _ _ _ (⟨4, (⟨#[98]⟩ : ByteArray), 0, (-2)⟩ : S40) )) (Reps.c4 (show Kd.M k40 _ _ _ (⟨4, (⟨#[98]⟩ : ByteArray), (-1), 0⟩ : S40) [.int .i64 4, .string (⟨#[98]⟩ : ByteArray), .int .i64 (-1), .int .i64 0] from (k40_mkM _ _ _ (⟨4, (⟨#[98]⟩ : ByteArray), (-1), 0⟩ : S40) )) (Reps.c4 (show Kd.M k40 _ _ _ (⟨6, (⟨#[98]⟩ : ByteArray), 0, 0⟩ : S40) [.int .i64 6, .string (⟨#[98]⟩ : ByteArray), .int .i64 0, .int .i64 0] from (k40_mkM _ _ _ (⟨6, (⟨#[98]⟩ : ByteArray), 0, 0⟩ : S40) )) (Reps.c4 (show Kd.M k40 _ _ _ (⟨3, (⟨#[65]⟩ : ByteArray), 0, 0⟩ : S40) [.int .i64 3, .string (⟨#[65]⟩ : ByteArray), .int .i64 0, .int .i64 0] from (k40_mkM _ _ _ (⟨3, (⟨#[65]⟩ : ByteArray), 0, 0⟩ : S40) )) (Reps.c4 (show Kd.M k40 _ _ _ (⟨5, (⟨#[98, 49]⟩ : ByteArray), 0, 0⟩ : S40) [.int .i64 5, .string (⟨#[98, 49]⟩ : ByteArray), .int .i64 0, .int .i64 0] from (k40_mkM _ _ _ (⟨5, (⟨#[98, 49]⟩ : ByteArray), 0, 0⟩ : S40) )) (Reps.none _ _)))))))))))); intro v164 w10 ho11 hb hg_ hnew_; clear hg_ hnew_; (first | rw [← Ny163.out] at ho11 | (simp only [Int.reduceToNat] at ho11; rw [← Ny163.out] at ho11)); have n0_ := Aside0.mk (Kd.R_lower (Kd.R_newB ho11 (g := gb160) (o := .cells #[.int .i64 0, .string (⟨#[]⟩ : ByteArray), .int .i64 0, .int .i64 0] 40 (0, 0)) (kb BK160.out)) (keep_size (w := w) (g := g) (row := none) (spec_l20Cmd.s5 HK.out GW160.out))); have n1_ := Aside0.mk (IsS147.below (spec_l20Cmd.s3 HI0.out NB0_160.out) hb); have n2_ := an1 BK160 hb; have n3_ := Aside0.mk (KeepBut.trans (spec_l20Cmd.s5 HK.out GW160.out) (KeepBut.of_below hb g none) (.inl rfl)); have n4_ := Aside0.mk (below_step (spec_l20Cmd.s4 HB.out HI0.out GE160.out) hb); clear HI0; clear BK160; clear HK; clear HB; have HO165 := n0_; have HI0 := n1_; have BK160 := n2_; have HK := n3_; have HB := n4_; clear n0_ n1_ n2_ n3_ n4_; clear hb ho11) | ((with_reducible refine gate_callee (f := 78) rfl ?_); refine gsl (some 21) rfl Try.func78 #[.pointer (some ⟨g, 0, none⟩), .int .i64 10] rfl ?_; (with_reducible refine (spec_l20Rd_pick.calls k g s0_0 t162 10 t166 t167 w0 _ ?side1 ?side2 A5.out).mono ?_); (case side1 => exact spec_l20Cmd.s3 HI0.out NB0_160.out); (case side2 => exact spec_l20Cmd.s4 HB.out HI0.out GE160.out); rintro e w12 ⟨rfl, hi, hb, hk⟩; refine ⟨_, rfl, ?_⟩; have n0_ := Aside0.mk (KeepBut.blk hk (g' := gb160) (o := .cells #[.int .i64 0, .string (⟨#[]⟩ : ByteArray), .int .i64 0, .int .i64 0] 40 (0, 0)) (kb BK160.out) NB160_0.out (by simp)); have n1_ := Aside0.mk (Kd.R_mono (Kd.R_keep (IsS147.apart (show IsS147 w0 _ g s0_0 t162 from spec_l20Cmd.s3 HI0.out NB0_160.out) (kr HO165.out) (by decide)) hk (fun _ h => h.2)) (fun _ h => h.1)); have n2_ := Aside0.mk (KeepBut.trans (spec_l20Cmd.s5 HK.out GW160.out) hk (.inl rfl)); have n3_ := Aside0.mk (hb); have n4_ := Aside0.mk (hi); clear BK160; clear HO165; clear HK; clear HB; clear HI0; have BK160 := n0_; have HO165 := n1_; have HK := n2_; have HB := n3_; have HI0 := n4_; clear n0_ n1_ n2_ n3_ n4_; (try clear hb); (try clear hb2); (try clear hk); (try clear hi); obtain ⟨Ao13, co13, eo13⟩ := Kd.R_slice HO165.out; subst eo13; have p168 : 0 ≤ (t166 : Int) := of_decide_eq_true (by first | (with_reducible assumption) | assumption); have q168 : t166 < (y163.length : Int) := of_decide_eq_true (by first | (with_reducible assumption) | assumption); obtain ⟨ad168, e168, hx168_0, hx168_1, hx168_2, hx168_3⟩ := at_T40 (Kd.R_reads' HO165.out).2.2 t166 p168 q168; cases e168; replace p168 := eq_true p168; replace q168 := eq_true q168; have hnb14 := NB160_0.out; have hnc14 := NB0_160.out; obtain ⟨hcz15_0, hcz15_1, hcz15_2, hcz15_3, hfz15_0, hfz15_1, hfz15_2, hfz15_3⟩ := cl4 BK160))
        refine bodyPost_ret (results_cell_row rfl _ _ gb160 40 #[.int .i64 ((rd_T40 y163 t166).f0), .string ((rd_T40 y163 t166).f1), .int .i64 ((rd_T40 y163 t166).f2), .int .i64 ((rd_T40 y163 t166).f3)] (0, 0) _ rfl (by (with_reducible repeat (first | refine blk_drewN ?_ _ | refine blk_drew ?_ | refine blk_alloc ?_ _)); refine blk_put (cs := #[.int .i64 ((rd_T40 y163 t166).f0), .string ((rd_T40 y163 t166).f1), .int .i64 ((rd_T40 y163 t166).f2), .int .i64 0]) ?_ 3 _ rfl; (with_reducible repeat (first | refine blk_drewN ?_ _ | refine blk_drew ?_ | refine blk_alloc ?_ _)); refine blk_put (cs := #[.int .i64 ((rd_T40 y163 t166).f0), .string ((rd_T40 y163 t166).f1), .int .i64 0, .int .i64 0]) ?_ 2 _ rfl; (with_reducible repeat (first | refine blk_drewN ?_ _ | refine blk_drew ?_ | refine blk_alloc ?_ _)); refine blk_put (cs := #[.int .i64 ((rd_T40 y163 t166).f0), .string (⟨#[]⟩ : ByteArray), .int .i64 0, .int .i64 0]) ?_ 1 _ rfl; (with_reducible repeat (first | refine blk_drewN ?_ _ | refine blk_drew ?_ | refine blk_alloc ?_ _)); refine blk_put (cs := #[.int .i64 0, .string (⟨#[]⟩ : ByteArray), .int .i64 0, .int .i64 0]) ?_ 0 _ rfl; (with_reducible repeat (first | refine blk_drewN ?_ _ | refine blk_drew ?_ | refine blk_alloc ?_ _)); exact BK160.out) Try.underlying40 rfl (by kernel_rfl)) rfl ?_
        exact ⟨fe, spec_l20Cmd.s3 HI0.out NB0_160.out, spec_l20Cmd.s4 HB.out HI0.out GE160.out, spec_l20Cmd.s5 HK.out GW160.out⟩
      · rw [if_neg c7] at H
        exact absurd H (by simp)
    · rw [if_neg c6] at H
      exact absurd H (by simp)
  · replace c4 := Bool.eq_false_iff.mpr c4
    subst c4
    have H1 : ((spec_l20Key.f k s0_0 t162 0).bind fun bt169 => ((spec_l20Rd_pick.f k s0_0 bt169.2 2).bind fun bt171 => (if bt171.1 = 0 then ((some (([(⟨#[98]⟩ : ByteArray), (⟨#[99]⟩ : ByteArray), (⟨#[100]⟩ : ByteArray), (⟨#[109]⟩ : ByteArray)] : List ByteArray) : List ByteArray)).bind fun y173 => ((spec_l20Rd_pick.f k s0_0 bt171.2 4).bind fun bt176 => (if 0 ≤ bt176.1 then (if bt176.1 < (y173.length : Int) then (spec_l20Cmd.j0 k (rdOf ByteArray.empty y173 bt176.1) s0_0 bt176.2) else (none)) else (none)))) else (spec_l20Cmd.j0 k bt169.1 s0_0 bt171.2)))) = some (r1, r2, r3, r4, r5) := by rw [if_neg (show ¬ (false = true) by decide)] at H; exact H
    clear H
    have H := H1
    clear H1
    replace H := Option.bind_eq_some_iff.mp H
    obtain ⟨⟨t169, t170⟩, A160, H⟩ := H
    replace H : ((spec_l20Rd_pick.f k s0_0 t170 2).bind fun bt171 => (if bt171.1 = 0 then ((some (([(⟨#[98]⟩ : ByteArray), (⟨#[99]⟩ : ByteArray), (⟨#[100]⟩ : ByteArray), (⟨#[109]⟩ : ByteArray)] : List ByteArray) : List ByteArray)).bind fun y173 => ((spec_l20Rd_pick.f k s0_0 bt171.2 4).bind fun bt176 => (if 0 ≤ bt176.1 then (if bt176.1 < (y173.length : Int) then (spec_l20Cmd.j0 k (rdOf ByteArray.empty y173 bt176.1) s0_0 bt176.2) else (none)) else (none)))) else (spec_l20Cmd.j0 k t169 s0_0 bt171.2))) = some (r1, r2, r3, r4, r5) := H
    have A16 := Aside0.mk A160
    clear A160
    replace H := Option.bind_eq_some_iff.mp H
    obtain ⟨⟨t171, t172⟩, A170, H⟩ := H
    replace H : (if t171 = 0 then ((some (([(⟨#[98]⟩ : ByteArray), (⟨#[99]⟩ : ByteArray), (⟨#[100]⟩ : ByteArray), (⟨#[109]⟩ : ByteArray)] : List ByteArray) : List ByteArray)).bind fun y173 => ((spec_l20Rd_pick.f k s0_0 t172 4).bind fun bt176 => (if 0 ≤ bt176.1 then (if bt176.1 < (y173.length : Int) then (spec_l20Cmd.j0 k (rdOf ByteArray.empty y173 bt176.1) s0_0 bt176.2) else (none)) else (none)))) else (spec_l20Cmd.j0 k t169 s0_0 t172)) = some (r1, r2, r3, r4, r5) := H
    have A17 := Aside0.mk A170
    clear A170
    have HC18 := Aside0.mk H
    clear H
    go_enter Try.func129, Try.ntmps129
    go_upto_if 28 with (first | ((with_reducible refine gate_dst (N := 4) rfl ?_); refine bxe (N := 4) (cs := #[.int .i64 0, .string (⟨#[]⟩ : ByteArray), .int .i64 0, .int .i64 0]) (t := 40) ?_; intro gb160 hg w19 hbox hb; have n0_ := Aside0.mk (IsS147.below (spec_l20Cmd.s0 HI0.out) hb); have n1_ := Aside0.mk (KeepBut.trans (spec_l20Cmd.s1 HK.out) (KeepBut.of_below hb g none) (.inl rfl)); have n2_ := Aside0.mk (below_step (spec_l20Cmd.s2 HB.out HI0.out) hb); have n3_ := Aside0.mk (hbox); have n4_ := Aside0.mk ((by rw [hg]; exact (keep_size (w := w) (g := g) (row := none) (spec_l20Cmd.s1 HK.out)) : w.heap.size ≤ gb160)); have n5_ := Aside0.mk ((Nat.le_trans HW0.out (by rw [hg]; exact (keep_size (w := w) (g := g) (row := none) (spec_l20Cmd.s1 HK.out)) : w.heap.size ≤ gb160) : w0.heap.size ≤ gb160)); have n6_ := Aside0.mk ((by rw [hg]; exact Nat.ne_of_lt (IsS147.lt (show IsS147 w0 _ g s0_0 s0_1 from spec_l20Cmd.s0 HI0.out)) : g ≠ gb160)); have n7_ := Aside0.mk ((by rw [hg]; exact Nat.ne_of_gt (IsS147.lt (show IsS147 w0 _ g s0_0 s0_1 from spec_l20Cmd.s0 HI0.out)) : gb160 ≠ g)); clear HI0; clear HK; clear HB; have HI0 := n0_; have HK := n1_; have HB := n2_; have BK160 := n3_; have GW160 := n4_; have GE160 := n5_; have NB0_160 := n6_; have NB160_0 := n7_; clear n0_ n1_ n2_ n3_ n4_ n5_ n6_ n7_; clear hb hbox hg) | ((with_reducible refine gate_callee (f := 125) rfl ?_); refine gsl (some 8) rfl Try.func125 #[.pointer (some ⟨g, 0, none⟩), .int .i64 a1] rfl ?_; (with_reducible refine (spec_l20Rd_odd.calls k g s0_0 s0_1 a1 false t162 w0 _ ?side1 ?side2 A3.out).mono ?_); (case side1 => exact spec_l20Cmd.s3 HI0.out NB0_160.out); (case side2 => exact spec_l20Cmd.s4 HB.out HI0.out GE160.out); rintro e w20 ⟨rfl, hi, hb, hk⟩; refine ⟨_, rfl, ?_⟩; have n0_ := Aside0.mk (KeepBut.blk hk (g' := gb160) (o := .cells #[.int .i64 0, .string (⟨#[]⟩ : ByteArray), .int .i64 0, .int .i64 0] 40 (0, 0)) (kb BK160.out) NB160_0.out (by simp)); have n1_ := Aside0.mk (KeepBut.trans (spec_l20Cmd.s5 HK.out GW160.out) hk (.inl rfl)); have n2_ := Aside0.mk (hb); have n3_ := Aside0.mk (hi); clear BK160; clear HK; clear HB; clear HI0; have BK160 := n0_; have HK := n1_; have HB := n2_; have HI0 := n3_; clear n0_ n1_ n2_ n3_; (try clear hb); (try clear hb2); (try clear hk); (try clear hi)) | ((with_reducible refine gate_callee (f := 122) rfl ?_); refine gsl (some 25) rfl Try.func122 #[.pointer (some ⟨g, 0, none⟩), .int .i64 0] rfl ?_; (with_reducible refine (spec_l20Key.calls k g s0_0 t162 0 t169 t170 w0 _ ?side1 ?side2 A16.out).mono ?_); (case side1 => exact spec_l20Cmd.s3 HI0.out NB0_160.out); (case side2 => exact spec_l20Cmd.s4 HB.out HI0.out GE160.out); rintro e w21 ⟨rfl, hi, hb, hk⟩; refine ⟨_, rfl, ?_⟩; have n0_ := Aside0.mk (KeepBut.blk hk (g' := gb160) (o := .cells #[.int .i64 0, .string (⟨#[]⟩ : ByteArray), .int .i64 0, .int .i64 0] 40 (0, 0)) (kb BK160.out) NB160_0.out (by simp)); have n1_ := Aside0.mk (KeepBut.trans (spec_l20Cmd.s5 HK.out GW160.out) hk (.inl rfl)); have n2_ := Aside0.mk (hb); have n3_ := Aside0.mk (hi); clear BK160; clear HK; clear HB; clear HI0; have BK160 := n0_; have HK := n1_; have HB := n2_; have HI0 := n3_; clear n0_ n1_ n2_ n3_; (try clear hb); (try clear hb2); (try clear hk); (try clear hi)) | ((with_reducible refine gate_callee (f := 78) rfl ?_); refine gsl (some 27) rfl Try.func78 #[.pointer (some ⟨g, 0, none⟩), .int .i64 2] rfl ?_; (with_reducible refine (spec_l20Rd_pick.calls k g s0_0 t170 2 t171 t172 w0 _ ?side1 ?side2 A17.out).mono ?_); (case side1 => exact spec_l20Cmd.s3 HI0.out NB0_160.out); (case side2 => exact spec_l20Cmd.s4 HB.out HI0.out GE160.out); rintro e w22 ⟨rfl, hi, hb, hk⟩; refine ⟨_, rfl, ?_⟩; have n0_ := Aside0.mk (KeepBut.blk hk (g' := gb160) (o := .cells #[.int .i64 0, .string (⟨#[]⟩ : ByteArray), .int .i64 0, .int .i64 0] 40 (0, 0)) (kb BK160.out) NB160_0.out (by simp)); have n1_ := Aside0.mk (KeepBut.trans (spec_l20Cmd.s5 HK.out GW160.out) hk (.inl rfl)); have n2_ := Aside0.mk (hb); have n3_ := Aside0.mk (hi); clear BK160; clear HK; clear HB; clear HI0; have BK160 := n0_; have HK := n1_; have HB := n2_; have HI0 := n3_; clear n0_ n1_ n2_ n3_; (try clear hb); (try clear hb2); (try clear hk); (try clear hi)))
    (try simp only [Act.put, List.setIfInBounds_toArray, List.set_cons_zero, List.set_cons_succ])
    go_cut [5] (fun v5 wc => ∃ (kq : Nat) (x5_17 : ByteArray) (x1001_17 : Int), v5 = .string x5_17 ∧ Aside0 (spec_l20Cmd.j0 kq x5_17 s0_0 x1001_17 = some (r1, r2, r3, r4, r5)) ∧ Aside0 (kq ≤ k) ∧ Aside0 (wc.heap[gb160]? = some (.cells #[.int .i64 0, .string (⟨#[]⟩ : ByteArray), .int .i64 0, .int .i64 0] 40 (0, 0))) ∧ Aside0 (IsS147 w0 wc g s0_0 x1001_17) ∧ Aside0 (KeepBut w wc g none) ∧ Aside0 (Below w0.heap.size w0 wc))
    case first =>
      have H := HC18.out
      clear HC18
      by_cases c23 : t171 = 0
      · rw [if_pos c23] at H
        have c23b0 : (t171 == 0) = true := beq_iff_eq.mpr c23
        have c23b1 : (t171 != 0) = false := bne_eq_false_iff_eq.mpr c23
        clear c23
        (first | rw [c23b0] | (simp only [i64_w, i32_w]; rw [c23b0]) | skip)
        obtain ⟨y173, hy173⟩ : ∃ y_ : List ByteArray, y_ = (([(⟨#[98]⟩ : ByteArray), (⟨#[99]⟩ : ByteArray), (⟨#[100]⟩ : ByteArray), (⟨#[109]⟩ : ByteArray)] : List ByteArray)) := ⟨_, rfl⟩
        replace H : ((spec_l20Rd_pick.f k s0_0 t172 4).bind fun bt176 => (if 0 ≤ bt176.1 then (if bt176.1 < (y173.length : Int) then (spec_l20Cmd.j0 k (rdOf ByteArray.empty y173 bt176.1) s0_0 bt176.2) else (none)) else (none))) = some (r1, r2, r3, r4, r5) := by first | (rw [hy173]; with_reducible exact H) | (have H2_ := (Option.bind_some _ _).symm.trans H; rw [hy173]; with_reducible exact H2_) | (have H2_ := (Option.bind_some _ _).symm.trans H; with_reducible exact H2_) | with_reducible exact H | (rw [hy173]; exact H) | exact H
        have Ny173 := Aside0.mk hy173
        clear hy173
        replace H := Option.bind_eq_some_iff.mp H
        obtain ⟨⟨t176, t177⟩, A240, H⟩ := H
        replace H : (if 0 ≤ t176 then (if t176 < (y173.length : Int) then (spec_l20Cmd.j0 k (rdOf ByteArray.empty y173 t176) s0_0 t177) else (none)) else (none)) = some (r1, r2, r3, r4, r5) := H
        have A24 := Aside0.mk A240
        clear A240
        by_cases c25 : 0 ≤ t176
        · rw [if_pos c25] at H
          have c25b0 : decide (0 ≤ t176) = true := decide_eq_true c25
          clear c25
          by_cases c26 : t176 < (y173.length : Int)
          · rw [if_pos c26] at H
            have c26b0 : decide (t176 < (y173.length : Int)) = true := decide_eq_true c26
            clear c26
            have H' := Aside0.mk H
            clear H
            go_wp2_with (first | ((with_reducible refine gate_dst (N := 29) rfl ?_); refine Kd.R_lit Kd.string _ 9 ?hg (N := 29) ?hd (xs := ([(⟨#[98]⟩ : ByteArray), (⟨#[99]⟩ : ByteArray), (⟨#[100]⟩ : ByteArray), (⟨#[109]⟩ : ByteArray)] : List ByteArray)) (inner := [.string (⟨#[98]⟩ : ByteArray), .string (⟨#[99]⟩ : ByteArray), .string (⟨#[100]⟩ : ByteArray), .string (⟨#[109]⟩ : ByteArray)]) (ok := fun _ => True) (okp := fun _ => True) ?hr ?hp (fun _ hk => hk) trivial (Below.refl _ _) (Nat.le_refl _) (by simp) ?_; (case hd => rfl); (case hg => rfl); (case hr => first | (go_simp; done) | (go_simp; rfl)); (case hp => exact (Reps.one (show Kd.M Kd.string _ _ _ (⟨#[98]⟩ : ByteArray) [.string (⟨#[98]⟩ : ByteArray)] from rfl) (Reps.one (show Kd.M Kd.string _ _ _ (⟨#[99]⟩ : ByteArray) [.string (⟨#[99]⟩ : ByteArray)] from rfl) (Reps.one (show Kd.M Kd.string _ _ _ (⟨#[100]⟩ : ByteArray) [.string (⟨#[100]⟩ : ByteArray)] from rfl) (Reps.one (show Kd.M Kd.string _ _ _ (⟨#[109]⟩ : ByteArray) [.string (⟨#[109]⟩ : ByteArray)] from rfl) (Reps.none _ _)))))); intro v174 w27 ho28 hb hg_ hnew_; clear hg_ hnew_; (first | rw [← Ny173.out] at ho28 | (simp only [Int.reduceToNat] at ho28; rw [← Ny173.out] at ho28)); have n0_ := Aside0.mk (Kd.R_lower ho28 (keep_size (w := w) (g := g) (row := none) (spec_l20Cmd.s5 HK.out GW160.out))); have n1_ := Aside0.mk (IsS147.below (spec_l20Cmd.s3 HI0.out NB0_160.out) hb); have n2_ := an1 BK160 hb; have n3_ := Aside0.mk (KeepBut.trans (spec_l20Cmd.s5 HK.out GW160.out) (KeepBut.of_below hb g none) (.inl rfl)); have n4_ := Aside0.mk (below_step (spec_l20Cmd.s4 HB.out HI0.out GE160.out) hb); clear HI0; clear BK160; clear HK; clear HB; have HO175 := n0_; have HI0 := n1_; have BK160 := n2_; have HK := n3_; have HB := n4_; clear n0_ n1_ n2_ n3_ n4_; clear hb ho28) | ((with_reducible refine gate_callee (f := 78) rfl ?_); refine gsl (some 31) rfl Try.func78 #[.pointer (some ⟨g, 0, none⟩), .int .i64 4] rfl ?_; (with_reducible refine (spec_l20Rd_pick.calls k g s0_0 t172 4 t176 t177 w0 _ ?side1 ?side2 A24.out).mono ?_); (case side1 => exact spec_l20Cmd.s3 HI0.out NB0_160.out); (case side2 => exact spec_l20Cmd.s4 HB.out HI0.out GE160.out); rintro e w29 ⟨rfl, hi, hb, hk⟩; refine ⟨_, rfl, ?_⟩; have n0_ := Aside0.mk (KeepBut.blk hk (g' := gb160) (o := .cells #[.int .i64 0, .string (⟨#[]⟩ : ByteArray), .int .i64 0, .int .i64 0] 40 (0, 0)) (kb BK160.out) NB160_0.out (by simp)); have n1_ := Aside0.mk (Kd.R_mono (Kd.R_keep (IsS147.apart (show IsS147 w0 _ g s0_0 t172 from spec_l20Cmd.s3 HI0.out NB0_160.out) (kr HO175.out) (by decide)) hk (fun _ h => h.2)) (fun _ h => h.1)); have n2_ := Aside0.mk (KeepBut.trans (spec_l20Cmd.s5 HK.out GW160.out) hk (.inl rfl)); have n3_ := Aside0.mk (hb); have n4_ := Aside0.mk (hi); clear BK160; clear HO175; clear HK; clear HB; clear HI0; have BK160 := n0_; have HO175 := n1_; have HK := n2_; have HB := n3_; have HI0 := n4_; clear n0_ n1_ n2_ n3_ n4_; (try clear hb); (try clear hb2); (try clear hk); (try clear hi); obtain ⟨Ao30, co30, eo30⟩ := Kd.R_slice HO175.out; subst eo30; have p178 : 0 ≤ (t176 : Int) := of_decide_eq_true (by first | (with_reducible assumption) | assumption); have q178 : t176 < (y173.length : Int) := of_decide_eq_true (by first | (with_reducible assumption) | assumption); obtain ⟨ad178, e178, hx178_0⟩ := Kd.at_string (Kd.R_reads' HO175.out).2.2 t176 p178 q178; cases e178; replace p178 := eq_true p178; replace q178 := eq_true q178))
            go_meet
            case rel => exact ⟨_, (rdOf ByteArray.empty y173 t176), (t177), (by first | rfl | (simp; done) | (simp [*]; done) | (simp [bne_nil_, beq_nil_]; done)), H', ⟨by first | omega | exact Nat.le_refl _⟩, ⟨kb BK160.out⟩, ⟨spec_l20Cmd.s3 HI0.out NB0_160.out⟩, ⟨spec_l20Cmd.s5 HK.out GW160.out⟩, ⟨spec_l20Cmd.s4 HB.out HI0.out GE160.out⟩⟩
          · rw [if_neg c26] at H
            exact absurd H (by simp)
        · rw [if_neg c25] at H
          exact absurd H (by simp)
      · rw [if_neg c23] at H
        have c23b0 : (t171 == 0) = false := beq_eq_false_iff_ne.mpr c23
        have c23b1 : (t171 != 0) = true := bne_iff_ne.mpr c23
        (first | rw [c23b0] | (simp only [i64_w, i32_w]; rw [c23b0]) | skip)
        have H' := Aside0.mk H
        clear H
        go_wp2
        go_meet
        case rel => exact ⟨_, (t169), (t172), (by first | rfl | (simp; done) | (simp [*]; done) | (simp [bne_nil_, beq_nil_]; done)), H', ⟨by first | omega | exact Nat.le_refl _⟩, ⟨kb BK160.out⟩, ⟨spec_l20Cmd.s3 HI0.out NB0_160.out⟩, ⟨spec_l20Cmd.s5 HK.out GW160.out⟩, ⟨spec_l20Cmd.s4 HB.out HI0.out GE160.out⟩⟩
    case rest =>
      clear HC18
      try clear c1
      try clear p1
      try clear q1
      try clear hx1
      try clear c2
      try clear p2
      try clear c4
      try clear c6
      try clear c6b0
      try clear p6
      try clear c7
      try clear c7b0
      try clear c12
      try clear c14
      try clear p16
      try clear q16
      try clear hx16
      try clear p17
      try clear q17
      try clear hx17
      try clear c23
      try clear c23b0
      try clear c23b1
      try clear c25
      try clear c25b0
      try clear c26
      try clear c26b0
      try clear hcz15_0
      try clear hcz15_1
      try clear hcz15_2
      try clear hcz15_3
      try clear hfz15_0
      try clear hfz15_1
      try clear hfz15_2
      try clear hfz15_3
      try clear hx168_0
      try clear hx168_1
      try clear hx168_2
      try clear hx168_3
      try clear hx178_0
      try clear p168
      try clear p178
      try clear q168
      try clear q178
      obtain ⟨kq, x5_17, x1001_17, rfl, HA, HJ17, BK160, HI0, HK, HB⟩ := hcut
      cases kq with
      | zero => exact absurd HA.out (by simp [spec_l20Cmd.j0])
      | succ kj17 =>
        have H := HA.out
        clear HA
        simp only [spec_l20Cmd.j0] at H
        replace H := Option.bind_eq_some_iff.mp H
        obtain ⟨⟨t179, t180⟩, A310, H⟩ := H
        replace H : (if t179 = 0 then (some (1, x5_17, 0, 0, t180)) else (if t179 = 1 then (some (3, x5_17, 0, 0, t180)) else (if t179 = 2 then ((spec_l20Rd_pick.f kj17 s0_0 t180 5).bind fun bt181 => ((spec_l20Rd_pick.f kj17 s0_0 bt181.2 5).bind fun bt183 => (some (4, x5_17, bt183.1, wrap64 (bt181.1 - 1), bt183.2)))) else ((spec_l20Value.f kj17 s0_0 t180 0).bind fun bt185 => (some (2, x5_17, Int.tmod bt185.1 1000, 0, bt185.2)))))) = some (r1, r2, r3, r4, r5) := H
        have A31 := Aside0.mk A310
        clear A310
        by_cases c32 : t179 = 0
        · rw [if_pos c32] at H
          have c32b0 : (t179 == 0) = true := beq_iff_eq.mpr c32
          have c32b1 : (t179 != 0) = false := bne_eq_false_iff_eq.mpr c32
          clear c32
          simp only [Option.some.injEq, Prod.mk.injEq] at H
          obtain ⟨rfl, rfl, rfl, rfl, rfl⟩ := H
          go_wp2_with (first | ((with_reducible refine gate_callee (f := 78) rfl ?_); refine gsl (some 35) rfl Try.func78 #[.pointer (some ⟨g, 0, none⟩), .int .i64 8] rfl ?_; (with_reducible refine (spec_l20Rd_pick.calls kj17 g s0_0 x1001_17 8 t179 t180 w0 _ ?side1 ?side2 A31.out).mono ?_); (case side1 => exact spec_l20Cmd.s3 HI0.out NB0_160.out); (case side2 => exact spec_l20Cmd.s4 HB.out HI0.out GE160.out); rintro e w33 ⟨rfl, hi, hb, hk⟩; refine ⟨_, rfl, ?_⟩; have n0_ := Aside0.mk (KeepBut.blk hk (g' := gb160) (o := .cells #[.int .i64 0, .string (⟨#[]⟩ : ByteArray), .int .i64 0, .int .i64 0] 40 (0, 0)) (kb BK160.out) NB160_0.out (by simp)); have n1_ := Aside0.mk (KeepBut.trans (spec_l20Cmd.s5 HK.out GW160.out) hk (.inl rfl)); have n2_ := Aside0.mk (hb); have n3_ := Aside0.mk (hi); clear BK160; clear HK; clear HB; clear HI0; have BK160 := n0_; have HK := n1_; have HB := n2_; have HI0 := n3_; clear n0_ n1_ n2_ n3_; (try clear hb); (try clear hb2); (try clear hk); (try clear hi); have hnb34 := NB160_0.out; have hnc34 := NB0_160.out; obtain ⟨hcz35_0, hcz35_1, hcz35_2, hcz35_3, hfz35_0, hfz35_1, hfz35_2, hfz35_3⟩ := cl4 BK160))
          refine bodyPost_ret (results_cell_row rfl _ _ gb160 40 #[.int .i64 1, .string x5_17, .int .i64 0, .int .i64 0] (0, 0) _ rfl (by (with_reducible repeat (first | refine blk_drewN ?_ _ | refine blk_drew ?_ | refine blk_alloc ?_ _)); refine blk_put (cs := #[.int .i64 1, .string x5_17, .int .i64 0, .int .i64 0]) ?_ 3 _ rfl; (with_reducible repeat (first | refine blk_drewN ?_ _ | refine blk_drew ?_ | refine blk_alloc ?_ _)); refine blk_put (cs := #[.int .i64 1, .string x5_17, .int .i64 0, .int .i64 0]) ?_ 2 _ rfl; (with_reducible repeat (first | refine blk_drewN ?_ _ | refine blk_drew ?_ | refine blk_alloc ?_ _)); refine blk_put (cs := #[.int .i64 1, .string (⟨#[]⟩ : ByteArray), .int .i64 0, .int .i64 0]) ?_ 1 _ rfl; (with_reducible repeat (first | refine blk_drewN ?_ _ | refine blk_drew ?_ | refine blk_alloc ?_ _)); refine blk_put (cs := #[.int .i64 0, .string (⟨#[]⟩ : ByteArray), .int .i64 0, .int .i64 0]) ?_ 0 _ rfl; (with_reducible repeat (first | refine blk_drewN ?_ _ | refine blk_drew ?_ | refine blk_alloc ?_ _)); exact BK160.out) Try.underlying40 rfl (by kernel_rfl)) rfl ?_
          exact ⟨fe, spec_l20Cmd.s3 HI0.out NB0_160.out, spec_l20Cmd.s4 HB.out HI0.out GE160.out, spec_l20Cmd.s5 HK.out GW160.out⟩
        · rw [if_neg c32] at H
          have c32b0 : (t179 == 0) = false := beq_eq_false_iff_ne.mpr c32
          have c32b1 : (t179 != 0) = true := bne_iff_ne.mpr c32
          by_cases c36 : t179 = 1
          · rw [if_pos c36] at H
            have c36b0 : (t179 == 1) = true := beq_iff_eq.mpr c36
            have c36b1 : (t179 != 1) = false := bne_eq_false_iff_eq.mpr c36
            clear c36
            simp only [Option.some.injEq, Prod.mk.injEq] at H
            obtain ⟨rfl, rfl, rfl, rfl, rfl⟩ := H
            go_wp2_with (first | ((with_reducible refine gate_callee (f := 78) rfl ?_); refine gsl (some 35) rfl Try.func78 #[.pointer (some ⟨g, 0, none⟩), .int .i64 8] rfl ?_; (with_reducible refine (spec_l20Rd_pick.calls kj17 g s0_0 x1001_17 8 t179 t180 w0 _ ?side1 ?side2 A31.out).mono ?_); (case side1 => exact spec_l20Cmd.s3 HI0.out NB0_160.out); (case side2 => exact spec_l20Cmd.s4 HB.out HI0.out GE160.out); rintro e w37 ⟨rfl, hi, hb, hk⟩; refine ⟨_, rfl, ?_⟩; have n0_ := Aside0.mk (KeepBut.blk hk (g' := gb160) (o := .cells #[.int .i64 0, .string (⟨#[]⟩ : ByteArray), .int .i64 0, .int .i64 0] 40 (0, 0)) (kb BK160.out) NB160_0.out (by simp)); have n1_ := Aside0.mk (KeepBut.trans (spec_l20Cmd.s5 HK.out GW160.out) hk (.inl rfl)); have n2_ := Aside0.mk (hb); have n3_ := Aside0.mk (hi); clear BK160; clear HK; clear HB; clear HI0; have BK160 := n0_; have HK := n1_; have HB := n2_; have HI0 := n3_; clear n0_ n1_ n2_ n3_; (try clear hb); (try clear hb2); (try clear hk); (try clear hi); have hnb38 := NB160_0.out; have hnc38 := NB0_160.out; obtain ⟨hcz39_0, hcz39_1, hcz39_2, hcz39_3, hfz39_0, hfz39_1, hfz39_2, hfz39_3⟩ := cl4 BK160))
            refine bodyPost_ret (results_cell_row rfl _ _ gb160 40 #[.int .i64 3, .string x5_17, .int .i64 0, .int .i64 0] (0, 0) _ rfl (by (with_reducible repeat (first | refine blk_drewN ?_ _ | refine blk_drew ?_ | refine blk_alloc ?_ _)); refine blk_put (cs := #[.int .i64 3, .string x5_17, .int .i64 0, .int .i64 0]) ?_ 3 _ rfl; (with_reducible repeat (first | refine blk_drewN ?_ _ | refine blk_drew ?_ | refine blk_alloc ?_ _)); refine blk_put (cs := #[.int .i64 3, .string x5_17, .int .i64 0, .int .i64 0]) ?_ 2 _ rfl; (with_reducible repeat (first | refine blk_drewN ?_ _ | refine blk_drew ?_ | refine blk_alloc ?_ _)); refine blk_put (cs := #[.int .i64 3, .string (⟨#[]⟩ : ByteArray), .int .i64 0, .int .i64 0]) ?_ 1 _ rfl; (with_reducible repeat (first | refine blk_drewN ?_ _ | refine blk_drew ?_ | refine blk_alloc ?_ _)); refine blk_put (cs := #[.int .i64 0, .string (⟨#[]⟩ : ByteArray), .int .i64 0, .int .i64 0]) ?_ 0 _ rfl; (with_reducible repeat (first | refine blk_drewN ?_ _ | refine blk_drew ?_ | refine blk_alloc ?_ _)); exact BK160.out) Try.underlying40 rfl (by kernel_rfl)) rfl ?_
            exact ⟨fe, spec_l20Cmd.s3 HI0.out NB0_160.out, spec_l20Cmd.s4 HB.out HI0.out GE160.out, spec_l20Cmd.s5 HK.out GW160.out⟩
          · rw [if_neg c36] at H
            have c36b0 : (t179 == 1) = false := beq_eq_false_iff_ne.mpr c36
            have c36b1 : (t179 != 1) = true := bne_iff_ne.mpr c36
            by_cases c40 : t179 = 2
            · rw [if_pos c40] at H
              have c40b0 : (t179 == 2) = true := beq_iff_eq.mpr c40
              have c40b1 : (t179 != 2) = false := bne_eq_false_iff_eq.mpr c40
              clear c40
              replace H := Option.bind_eq_some_iff.mp H
              obtain ⟨⟨t181, t182⟩, A410, H⟩ := H
              replace H : ((spec_l20Rd_pick.f kj17 s0_0 t182 5).bind fun bt183 => (some (4, x5_17, bt183.1, wrap64 (t181 - 1), bt183.2))) = some (r1, r2, r3, r4, r5) := H
              have A41 := Aside0.mk A410
              clear A410
              replace H := Option.bind_eq_some_iff.mp H
              obtain ⟨⟨t183, t184⟩, A420, H⟩ := H
              replace H : (some (4, x5_17, t183, wrap64 (t181 - 1), t184)) = some (r1, r2, r3, r4, r5) := H
              have A42 := Aside0.mk A420
              clear A420
              simp only [Option.some.injEq, Prod.mk.injEq] at H
              obtain ⟨rfl, rfl, rfl, rfl, rfl⟩ := H
              go_wp2_with (first | ((with_reducible refine gate_callee (f := 78) rfl ?_); refine gsl (some 35) rfl Try.func78 #[.pointer (some ⟨g, 0, none⟩), .int .i64 8] rfl ?_; (with_reducible refine (spec_l20Rd_pick.calls kj17 g s0_0 x1001_17 8 t179 t180 w0 _ ?side1 ?side2 A31.out).mono ?_); (case side1 => exact spec_l20Cmd.s3 HI0.out NB0_160.out); (case side2 => exact spec_l20Cmd.s4 HB.out HI0.out GE160.out); rintro e w43 ⟨rfl, hi, hb, hk⟩; refine ⟨_, rfl, ?_⟩; have n0_ := Aside0.mk (KeepBut.blk hk (g' := gb160) (o := .cells #[.int .i64 0, .string (⟨#[]⟩ : ByteArray), .int .i64 0, .int .i64 0] 40 (0, 0)) (kb BK160.out) NB160_0.out (by simp)); have n1_ := Aside0.mk (KeepBut.trans (spec_l20Cmd.s5 HK.out GW160.out) hk (.inl rfl)); have n2_ := Aside0.mk (hb); have n3_ := Aside0.mk (hi); clear BK160; clear HK; clear HB; clear HI0; have BK160 := n0_; have HK := n1_; have HB := n2_; have HI0 := n3_; clear n0_ n1_ n2_ n3_; (try clear hb); (try clear hb2); (try clear hk); (try clear hi)) | ((with_reducible refine gate_callee (f := 78) rfl ?_); refine gsl (some 48) rfl Try.func78 #[.pointer (some ⟨g, 0, none⟩), .int .i64 5] rfl ?_; (with_reducible refine (spec_l20Rd_pick.calls kj17 g s0_0 t180 5 t181 t182 w0 _ ?side1 ?side2 A41.out).mono ?_); (case side1 => exact spec_l20Cmd.s3 HI0.out NB0_160.out); (case side2 => exact spec_l20Cmd.s4 HB.out HI0.out GE160.out); rintro e w44 ⟨rfl, hi, hb, hk⟩; refine ⟨_, rfl, ?_⟩; have n0_ := Aside0.mk (KeepBut.blk hk (g' := gb160) (o := .cells #[.int .i64 0, .string (⟨#[]⟩ : ByteArray), .int .i64 0, .int .i64 0] 40 (0, 0)) (kb BK160.out) NB160_0.out (by simp)); have n1_ := Aside0.mk (KeepBut.trans (spec_l20Cmd.s5 HK.out GW160.out) hk (.inl rfl)); have n2_ := Aside0.mk (hb); have n3_ := Aside0.mk (hi); clear BK160; clear HK; clear HB; clear HI0; have BK160 := n0_; have HK := n1_; have HB := n2_; have HI0 := n3_; clear n0_ n1_ n2_ n3_; (try clear hb); (try clear hb2); (try clear hk); (try clear hi)) | ((with_reducible refine gate_callee (f := 78) rfl ?_); refine gsl (some 51) rfl Try.func78 #[.pointer (some ⟨g, 0, none⟩), .int .i64 5] rfl ?_; (with_reducible refine (spec_l20Rd_pick.calls kj17 g s0_0 t182 5 t183 t184 w0 _ ?side1 ?side2 A42.out).mono ?_); (case side1 => exact spec_l20Cmd.s3 HI0.out NB0_160.out); (case side2 => exact spec_l20Cmd.s4 HB.out HI0.out GE160.out); rintro e w45 ⟨rfl, hi, hb, hk⟩; refine ⟨_, rfl, ?_⟩; have n0_ := Aside0.mk (KeepBut.blk hk (g' := gb160) (o := .cells #[.int .i64 0, .string (⟨#[]⟩ : ByteArray), .int .i64 0, .int .i64 0] 40 (0, 0)) (kb BK160.out) NB160_0.out (by simp)); have n1_ := Aside0.mk (KeepBut.trans (spec_l20Cmd.s5 HK.out GW160.out) hk (.inl rfl)); have n2_ := Aside0.mk (hb); have n3_ := Aside0.mk (hi); clear BK160; clear HK; clear HB; clear HI0; have BK160 := n0_; have HK := n1_; have HB := n2_; have HI0 := n3_; clear n0_ n1_ n2_ n3_; (try clear hb); (try clear hb2); (try clear hk); (try clear hi); have hnb46 := NB160_0.out; have hnc46 := NB0_160.out; obtain ⟨hcz47_0, hcz47_1, hcz47_2, hcz47_3, hfz47_0, hfz47_1, hfz47_2, hfz47_3⟩ := cl4 BK160))
              refine bodyPost_ret (results_cell_row rfl _ _ gb160 40 #[.int .i64 4, .string x5_17, .int .i64 t183, .int .i64 (wrap64 (t181 - 1))] (0, 0) _ rfl (by (with_reducible repeat (first | refine blk_drewN ?_ _ | refine blk_drew ?_ | refine blk_alloc ?_ _)); refine blk_put (cs := #[.int .i64 4, .string x5_17, .int .i64 t183, .int .i64 0]) ?_ 3 _ rfl; (with_reducible repeat (first | refine blk_drewN ?_ _ | refine blk_drew ?_ | refine blk_alloc ?_ _)); refine blk_put (cs := #[.int .i64 4, .string x5_17, .int .i64 0, .int .i64 0]) ?_ 2 _ rfl; (with_reducible repeat (first | refine blk_drewN ?_ _ | refine blk_drew ?_ | refine blk_alloc ?_ _)); refine blk_put (cs := #[.int .i64 4, .string (⟨#[]⟩ : ByteArray), .int .i64 0, .int .i64 0]) ?_ 1 _ rfl; (with_reducible repeat (first | refine blk_drewN ?_ _ | refine blk_drew ?_ | refine blk_alloc ?_ _)); refine blk_put (cs := #[.int .i64 0, .string (⟨#[]⟩ : ByteArray), .int .i64 0, .int .i64 0]) ?_ 0 _ rfl; (with_reducible repeat (first | refine blk_drewN ?_ _ | refine blk_drew ?_ | refine blk_alloc ?_ _)); exact BK160.out) Try.underlying40 rfl (by kernel_rfl)) rfl ?_
              exact ⟨fe, spec_l20Cmd.s3 HI0.out NB0_160.out, spec_l20Cmd.s4 HB.out HI0.out GE160.out, spec_l20Cmd.s5 HK.out GW160.out⟩
            · rw [if_neg c40] at H
              have c40b0 : (t179 == 2) = false := beq_eq_false_iff_ne.mpr c40
              have c40b1 : (t179 != 2) = true := bne_iff_ne.mpr c40
              replace H := Option.bind_eq_some_iff.mp H
              obtain ⟨⟨t185, t186⟩, A480, H⟩ := H
              replace H : (some (2, x5_17, Int.tmod t185 1000, 0, t186)) = some (r1, r2, r3, r4, r5) := H
              have A48 := Aside0.mk A480
              clear A480
              simp only [Option.some.injEq, Prod.mk.injEq] at H
              obtain ⟨rfl, rfl, rfl, rfl, rfl⟩ := H
              go_wp2_with (first | ((with_reducible refine gate_callee (f := 78) rfl ?_); refine gsl (some 35) rfl Try.func78 #[.pointer (some ⟨g, 0, none⟩), .int .i64 8] rfl ?_; (with_reducible refine (spec_l20Rd_pick.calls kj17 g s0_0 x1001_17 8 t179 t180 w0 _ ?side1 ?side2 A31.out).mono ?_); (case side1 => exact spec_l20Cmd.s3 HI0.out NB0_160.out); (case side2 => exact spec_l20Cmd.s4 HB.out HI0.out GE160.out); rintro e w49 ⟨rfl, hi, hb, hk⟩; refine ⟨_, rfl, ?_⟩; have n0_ := Aside0.mk (KeepBut.blk hk (g' := gb160) (o := .cells #[.int .i64 0, .string (⟨#[]⟩ : ByteArray), .int .i64 0, .int .i64 0] 40 (0, 0)) (kb BK160.out) NB160_0.out (by simp)); have n1_ := Aside0.mk (KeepBut.trans (spec_l20Cmd.s5 HK.out GW160.out) hk (.inl rfl)); have n2_ := Aside0.mk (hb); have n3_ := Aside0.mk (hi); clear BK160; clear HK; clear HB; clear HI0; have BK160 := n0_; have HK := n1_; have HB := n2_; have HI0 := n3_; clear n0_ n1_ n2_ n3_; (try clear hb); (try clear hb2); (try clear hk); (try clear hi)) | ((with_reducible refine gate_callee (f := 123) rfl ?_); refine gsl (some 55) rfl Try.func123 #[.pointer (some ⟨g, 0, none⟩), .int .i64 0] rfl ?_; (with_reducible refine (spec_l20Value.calls kj17 g s0_0 t180 0 t185 t186 w0 _ ?side1 ?side2 A48.out).mono ?_); (case side1 => exact spec_l20Cmd.s3 HI0.out NB0_160.out); (case side2 => exact spec_l20Cmd.s4 HB.out HI0.out GE160.out); rintro e w50 ⟨rfl, hi, hb, hk⟩; refine ⟨_, rfl, ?_⟩; have n0_ := Aside0.mk (KeepBut.blk hk (g' := gb160) (o := .cells #[.int .i64 0, .string (⟨#[]⟩ : ByteArray), .int .i64 0, .int .i64 0] 40 (0, 0)) (kb BK160.out) NB160_0.out (by simp)); have n1_ := Aside0.mk (KeepBut.trans (spec_l20Cmd.s5 HK.out GW160.out) hk (.inl rfl)); have n2_ := Aside0.mk (hb); have n3_ := Aside0.mk (hi); clear BK160; clear HK; clear HB; clear HI0; have BK160 := n0_; have HK := n1_; have HB := n2_; have HI0 := n3_; clear n0_ n1_ n2_ n3_; (try clear hb); (try clear hb2); (try clear hk); (try clear hi); have hnb51 := NB160_0.out; have hnc51 := NB0_160.out; obtain ⟨hcz52_0, hcz52_1, hcz52_2, hcz52_3, hfz52_0, hfz52_1, hfz52_2, hfz52_3⟩ := cl4 BK160))
              refine bodyPost_ret (results_cell_row rfl _ _ gb160 40 #[.int .i64 2, .string x5_17, .int .i64 (Int.tmod t185 1000), .int .i64 0] (0, 0) _ rfl (by (with_reducible repeat (first | refine blk_drewN ?_ _ | refine blk_drew ?_ | refine blk_alloc ?_ _)); refine blk_put (cs := #[.int .i64 2, .string x5_17, .int .i64 (Int.tmod t185 1000), .int .i64 0]) ?_ 3 _ rfl; (with_reducible repeat (first | refine blk_drewN ?_ _ | refine blk_drew ?_ | refine blk_alloc ?_ _)); refine blk_put (cs := #[.int .i64 2, .string x5_17, .int .i64 0, .int .i64 0]) ?_ 2 _ rfl; (with_reducible repeat (first | refine blk_drewN ?_ _ | refine blk_drew ?_ | refine blk_alloc ?_ _)); refine blk_put (cs := #[.int .i64 2, .string (⟨#[]⟩ : ByteArray), .int .i64 0, .int .i64 0]) ?_ 1 _ rfl; (with_reducible repeat (first | refine blk_drewN ?_ _ | refine blk_drew ?_ | refine blk_alloc ?_ _)); refine blk_put (cs := #[.int .i64 0, .string (⟨#[]⟩ : ByteArray), .int .i64 0, .int .i64 0]) ?_ 0 _ rfl; (with_reducible repeat (first | refine blk_drewN ?_ _ | refine blk_drew ?_ | refine blk_alloc ?_ _)); exact BK160.out) Try.underlying40 rfl (by kernel_rfl)) rfl ?_
              exact ⟨fe, spec_l20Cmd.s3 HI0.out NB0_160.out, spec_l20Cmd.s4 HB.out HI0.out GE160.out, spec_l20Cmd.s5 HK.out GW160.out⟩

/-! ### spec_l1In: function 112 -/
def spec_l1In.f (a0 : Int) (a1 : Int) (a2 : Int) : Option (Bool) := if a0 ≥ a1 then (some (decide (a0 ≤ a2))) else (some false)
set_option maxHeartbeats 8000000 in
set_option maxRecDepth 100000 in
theorem spec_l1In.calls (a0 : Int) (a1 : Int) (a2 : Int) (r : Bool) (w : World) (h : spec_l1In.f a0 a1 a2 = some r) :
    Calls Try.prog 112 #[.int .i64 a0, .int .i64 a1, .int .i64 a2] w fun e w' => e = .returned (.bool r) ∧ Drawn0 w w' := by
  have H : (if a0 ≥ a1 then (some (decide (a0 ≤ a2))) else (some false)) = some r := h
  clear h
  by_cases c4 : a0 ≥ a1
  · rw [if_pos c4] at H
    have c4b0 : decide (a1 ≤ a0) = true := decide_eq_true c4
    clear c4
    obtain rfl := Option.some.inj H
    go_enter Try.func112, Try.ntmps112
    go_wp2
    go_ret
    exact ⟨by first | rfl | (simp; done) | (simp [*]; done) | (simp [bne_nil_, beq_nil_]; done), by repeat (first | exact Drawn0.refl _ | apply Drawn0.step)⟩
  · rw [if_neg c4] at H
    have c4b0 : decide (a1 ≤ a0) = false := decide_eq_false c4
    clear c4
    obtain rfl := Option.some.inj H
    go_enter Try.func112, Try.ntmps112
    go_wp2
    go_ret
    exact ⟨by first | rfl | (simp; done) | (simp [*]; done) | (simp [bne_nil_, beq_nil_]; done), by repeat (first | exact Drawn0.refl _ | apply Drawn0.step)⟩

/-! ### spec_KeyValid: function 113 -/
def spec_KeyValid.l0 : Nat → ByteArray → Int → Option (Bool)
  | 0, _, _ => none
  | k + 1, x0, x3 => if x3 < (x0.size : Int) then (if 0 ≤ x3 then (if (bt x0 x3) < 97 then (some false) else (if (bt x0 x3) > 122 then (some false) else (spec_KeyValid.l0 k x0 (wrap64 (x3 + 1))))) else (none)) else (some true)
def spec_KeyValid.f (k : Nat) (a0 : ByteArray) : Option (Bool) := (spec_l1In.f (a0.size : Int) 1 4).bind fun t187 => (if t187 = true then (spec_KeyValid.l0 k a0 0) else (some false))
theorem spec_KeyValid.mono_l : ∀ k, (∀ y0 y1, LeO (spec_KeyValid.l0 k y0 y1) (spec_KeyValid.l0 (k + 1) y0 y1))
  | 0 => fun _ _ r h => by simp [spec_KeyValid.l0] at h
  | k + 1 => by
    have ih0 := spec_KeyValid.mono_l k
    · intro y0 y1
      unfold spec_KeyValid.l0
      repeat' first
      | (with_reducible exact ih0 _ _)
      | (with_reducible exact LeO.refl _)
      | (with_reducible exact LeO.none _)
      | (with_reducible refine LeO.ite ?_ ?_)
      | (with_reducible refine LeO.bind ?_ (fun _ => ?_))
      | exact ih0 _ _
      | exact LeO.none _
      | refine LeO.ite ?_ ?_
      | refine LeO.bind ?_ (fun _ => ?_)
theorem spec_KeyValid.mono : ∀ a0 k, LeO (spec_KeyValid.f k a0) (spec_KeyValid.f (k + 1) a0) := by
  intro a0 k
  have ih0 := spec_KeyValid.mono_l k
  unfold spec_KeyValid.f
  repeat' first
      | (with_reducible exact ih0 _ _)
      | (with_reducible exact LeO.refl _)
      | (with_reducible exact LeO.none _)
      | (with_reducible refine LeO.ite ?_ ?_)
      | (with_reducible refine LeO.bind ?_ (fun _ => ?_))
      | exact ih0 _ _
      | exact LeO.none _
      | refine LeO.ite ?_ ?_
      | refine LeO.bind ?_ (fun _ => ?_)
set_option maxHeartbeats 8000000 in
set_option maxRecDepth 100000 in
theorem spec_KeyValid.calls (k : Nat) (a0 : ByteArray) (r : Bool) (w : World) (h : spec_KeyValid.f k a0 = some r) :
    Calls Try.prog 113 #[.string a0] w fun e w' => e = .returned (.bool r) ∧ Drawn0 w w' := by
  have H : ((spec_l1In.f (a0.size : Int) 1 4).bind fun t187 => (if t187 = true then (spec_KeyValid.l0 k a0 0) else (some false))) = some r := h
  clear h
  replace H := Option.bind_eq_some_iff.mp H
  obtain ⟨t187, A20, H⟩ := H
  replace H : (if t187 = true then (spec_KeyValid.l0 k a0 0) else (some false)) = some r := H
  have A2 := Aside0.mk A20
  clear A20
  by_cases c3 : t187 = true
  · subst c3
    have H1 : (spec_KeyValid.l0 k a0 0) = some r := by rw [if_pos rfl] at H; exact H
    clear H
    have H := H1
    clear H1
    have H' := Aside0.mk H
    clear H
    go_enter Try.func113, Try.ntmps113
    go_wp2_with (first | ((with_reducible refine gate_callee (f := 112) rfl ?_); refine gsl (some 6) rfl Try.func112 #[.int .i64 (a0.size : Int), .int .i64 1, .int .i64 4] rfl ?_; (with_reducible refine (spec_l1In.calls (a0.size : Int) 1 4 true _ A2.out).mono ?_); rintro e w' ⟨rfl, ⟨nd, rfl⟩⟩; refine ⟨_, rfl, ?_⟩))
    go_loopg [3] k (fun kq v3 w' => ∃ (x3_1 : Int), v3 = .int .i64 x3_1 ∧ Aside0 (spec_KeyValid.l0 kq a0 x3_1 = some r) ∧ Aside0 (kq ≤ k) ∧ Drawn0 w w')
    case atStart => exact ⟨(0), (by first | rfl | (simp; done) | (simp [*]; done) | (simp [bne_nil_, beq_nil_]; done)), H', ⟨Nat.le_refl _⟩, by repeat (first | exact Drawn0.refl _ | apply Drawn0.step)⟩
    case round =>
      clear H'
      try clear c1
      try clear p2
      try clear c3
      obtain ⟨x3_1, rfl, HA, HK1, ⟨m1, rfl⟩⟩ := hrel
      cases gk with
      | zero => exact absurd HA.out (by simp [spec_KeyValid.l0])
      | succ k1 =>
        have H := HA.out
        clear HA
        simp only [spec_KeyValid.l0] at H
        by_cases c4 : x3_1 < (a0.size : Int)
        · rw [if_pos c4] at H
          have c4b0 : decide (x3_1 < (a0.size : Int)) = true := decide_eq_true c4
          clear c4
          by_cases c5 : 0 ≤ x3_1
          · rw [if_pos c5] at H
            have c5b0 : decide (0 ≤ x3_1) = true := decide_eq_true c5
            clear c5
            by_cases c7 : (bt a0 x3_1) < 97
            · rw [if_pos c7] at H
              have c7b0 : decide ((bt a0 x3_1) < 97) = true := decide_eq_true c7
              clear c7
              obtain rfl := Option.some.inj H
              have p6 : 0 ≤ (x3_1 : Int) := of_decide_eq_true (by first | (with_reducible assumption) | assumption)
              have q6 : x3_1 < (a0.size : Int) := of_decide_eq_true (by first | (with_reducible assumption) | assumption)
              have hx6 := bt_at a0 x3_1
              replace p6 := eq_true p6
              replace q6 := eq_true q6
              go_wp2
              go_ret
              exact ⟨by first | rfl | (simp; done) | (simp [*]; done) | (simp [bne_nil_, beq_nil_]; done), by repeat (first | exact Drawn0.refl _ | apply Drawn0.step)⟩
            · rw [if_neg c7] at H
              have c7b0 : decide ((bt a0 x3_1) < 97) = false := decide_eq_false c7
              clear c7
              by_cases c9 : (bt a0 x3_1) > 122
              · rw [if_pos c9] at H
                have c9b0 : decide (122 < (bt a0 x3_1)) = true := decide_eq_true c9
                clear c9
                obtain rfl := Option.some.inj H
                have p6 : 0 ≤ (x3_1 : Int) := of_decide_eq_true (by first | (with_reducible assumption) | assumption)
                have q6 : x3_1 < (a0.size : Int) := of_decide_eq_true (by first | (with_reducible assumption) | assumption)
                have hx6 := bt_at a0 x3_1
                replace p6 := eq_true p6
                replace q6 := eq_true q6
                have p8 : 0 ≤ (x3_1 : Int) := of_decide_eq_true (by first | (with_reducible assumption) | assumption)
                have q8 : x3_1 < (a0.size : Int) := of_decide_eq_true (by first | (with_reducible assumption) | assumption)
                have hx8 := bt_at a0 x3_1
                replace p8 := eq_true p8
                replace q8 := eq_true q8
                go_wp2
                go_ret
                exact ⟨by first | rfl | (simp; done) | (simp [*]; done) | (simp [bne_nil_, beq_nil_]; done), by repeat (first | exact Drawn0.refl _ | apply Drawn0.step)⟩
              · rw [if_neg c9] at H
                have c9b0 : decide (122 < (bt a0 x3_1)) = false := decide_eq_false c9
                clear c9
                have H' := Aside0.mk H
                clear H
                have p6 : 0 ≤ (x3_1 : Int) := of_decide_eq_true (by first | (with_reducible assumption) | assumption)
                have q6 : x3_1 < (a0.size : Int) := of_decide_eq_true (by first | (with_reducible assumption) | assumption)
                have hx6 := bt_at a0 x3_1
                replace p6 := eq_true p6
                replace q6 := eq_true q6
                have p8 : 0 ≤ (x3_1 : Int) := of_decide_eq_true (by first | (with_reducible assumption) | assumption)
                have q8 : x3_1 < (a0.size : Int) := of_decide_eq_true (by first | (with_reducible assumption) | assumption)
                have hx8 := bt_at a0 x3_1
                replace p8 := eq_true p8
                replace q8 := eq_true q8
                go_wp2
                go_roundg k1
                case measure => have := HK1.out; omega
                case rel => exact ⟨(wrap64 (x3_1 + 1)), (by first | rfl | (simp; done) | (simp [*]; done) | (simp [bne_nil_, beq_nil_]; done)), H', ⟨by have := HK1.out; omega⟩, by repeat (first | exact Drawn0.refl _ | apply Drawn0.step)⟩
          · rw [if_neg c5] at H
            exact absurd H (by simp)
        · rw [if_neg c4] at H
          have c4b0 : decide (x3_1 < (a0.size : Int)) = false := decide_eq_false c4
          clear c4
          obtain rfl := Option.some.inj H
          go_wp2
          go_ret
          exact ⟨by first | rfl | (simp; done) | (simp [*]; done) | (simp [bne_nil_, beq_nil_]; done), by repeat (first | exact Drawn0.refl _ | apply Drawn0.step)⟩
  · replace c3 := Bool.eq_false_iff.mpr c3
    subst c3
    have H1 : (some false) = some r := by rw [if_neg (show ¬ (false = true) by decide)] at H; exact H
    clear H
    have H := H1
    clear H1
    obtain rfl := Option.some.inj H
    go_enter Try.func113, Try.ntmps113
    go_wp2_with (first | ((with_reducible refine gate_callee (f := 112) rfl ?_); refine gsl (some 6) rfl Try.func112 #[.int .i64 (a0.size : Int), .int .i64 1, .int .i64 4] rfl ?_; (with_reducible refine (spec_l1In.calls (a0.size : Int) 1 4 false _ A2.out).mono ?_); rintro e w' ⟨rfl, ⟨nd, rfl⟩⟩; refine ⟨_, rfl, ?_⟩))
    go_ret
    exact ⟨by first | rfl | (simp; done) | (simp [*]; done) | (simp [bne_nil_, beq_nil_]; done), by repeat (first | exact Drawn0.refl _ | apply Drawn0.step)⟩

end Go.Proofs.Ytfeeifefmenlmaa.PFnRealTime
