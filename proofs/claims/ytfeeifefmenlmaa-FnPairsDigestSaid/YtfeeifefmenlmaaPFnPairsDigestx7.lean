-- Written by a program of this session, in the manner of the kit's print (wip/pp.py): functions and their contracts.
import Derived.Test.YtfeeifefmenlmaaPFnPairsDigestx0
import Derived.Test.YtfeeifefmenlmaaPFnPairsDigestx4
import Derived.Test.YtfeeifefmenlmaaPFnPairsDigestx5
import Derived.Test.YtfeeifefmenlmaaPFnPairsDigestx6
namespace Go.Proofs.Ytfeeifefmenlmaa.PFnPairsDigest
open Go.RowKit Go.Proofs.YtfeeifefmenlmaaW.PrintWords Go.Proofs.YtfeeifefmenlmaaW.PrintLast Go.Proofs.YtfeeifefmenlmaaW.PrintMore
attribute [local go_sem] binOp_leq_str binOp_gtr_str binOp_geq_str max2_int min2_int max_two min_two max_three min_three max_four min_four   -- for this text's walks alone
set_option linter.unusedVariables false
set_option linter.unusedSimpArgs false

/-! ### laws_FnPairsDigest: function 3 -/
def laws_FnPairsDigest.f (k : Nat) (l0 : List Int) : Option (Bool) := if (l0.length : Int) > 1048576 then (some true) else ((spec_DrawPairsDigest.f k l0).bind fun t266 => ((impl_PairsDigest.f k t266).bind fun t269 => ((spec_PairsDigest.f k t266).bind fun t270 => (if t269 = t270 then (if t269 < 0 then (if t269 = (-1) then ((impl_PairsValid.f k t266).bind fun t271 => (if t271 = true then (some false) else ((laws_alive.f k).bind fun t272 => (some t272)))) else (some false)) else (if (t266.length : Int) = 0 then (if t269 = 0 then ((laws_alive.f k).bind fun t273 => (some t273)) else (some false)) else ((some (([] : List (S29)) : List (S29))).bind fun y274 => (if y274.length + t266.length < 5864062014805 then ((some (y274 ++ t266 : List (S29))).bind fun y277 => (if 0 ≤ ((l0.length : Int) % (t266.length : Int)) then (if ((l0.length : Int) % (t266.length : Int)) < (t266.length : Int) then (if ((l0.length : Int) % (t266.length : Int)) < (y277.length : Int) then (if 0 ≤ (wrap64 ((t266.length : Int) / 2)) then (if (wrap64 ((t266.length : Int) / 2)) ≤ (t266.length : Int) then ((impl_PairsDigest.f k (t266.take ((wrap64 ((t266.length : Int) / 2)) : Int).toNat)).bind fun t286 => ((impl_PairsDigest.f k (t266.drop ((wrap64 ((t266.length : Int) / 2)) : Int).toNat)).bind fun t291 => (if (Int.tmod (wrap64 (t286 + t291)) 99991) = t269 then ((impl_PairsDigest.f k (y277.set (((l0.length : Int) % (t266.length : Int)) : Int).toNat (⟨(rd_T29 y277 ((l0.length : Int) % (t266.length : Int))).f0, Int.tmod (wrap64 ((wrap64 (((rd_T29 t266 ((l0.length : Int) % (t266.length : Int))).f1) + 1)) + ((l0.length : Int) % 999))) 1000⟩ : S29))).bind fun t292 => (if t292 = t269 then (some false) else (if 1 ≤ (t266.length : Int) then ((impl_PairsDigest.f k (t266.take 1)).bind fun t297 => (if 0 < (t266.length : Int) then ((impl_PairDigest.f k ((rd_T29 t266 0).f0) ((rd_T29 t266 0).f1)).bind fun t299 => (some (t297 == t299))) else (none))) else (none)))) else (some false)))) else (none)) else (none)) else (none)) else (none)) else (none))) else (none))))) else (some false)))))
theorem laws_FnPairsDigest.mono : ∀ a0 k, LeO (laws_FnPairsDigest.f k a0) (laws_FnPairsDigest.f (k + 1) a0) := by
  intro a0 k
  unfold laws_FnPairsDigest.f
  repeat' first
      | (with_reducible exact impl_PairDigest.mono _ _ _)
      | (with_reducible exact impl_PairsDigest.mono _ _)
      | (with_reducible exact impl_PairsValid.mono _ _)
      | (with_reducible exact laws_alive.mono _)
      | (with_reducible exact spec_DrawPairsDigest.mono _ _)
      | (with_reducible exact spec_PairsDigest.mono _ _)
      | (with_reducible exact LeO.refl _)
      | (with_reducible exact LeO.none _)
      | (with_reducible refine LeO.ite ?_ ?_)
      | (with_reducible refine LeO.bind ?_ (fun _ => ?_))
      | exact impl_PairDigest.mono _ _ _
      | exact impl_PairsDigest.mono _ _
      | exact impl_PairsValid.mono _ _
      | exact laws_alive.mono _
      | exact spec_DrawPairsDigest.mono _ _
      | exact spec_PairsDigest.mono _ _
      | exact LeO.none _
      | refine LeO.ite ?_ ?_
      | refine LeO.bind ?_ (fun _ => ?_)
def laws_FnPairsDigest.T15 : Bool × List (List Nat × List Nat) := (true, [([], []), ([], []), ([0, 1], [0, 1]), ([2], [2]), ([], []), ([], []), ([4, 5], [4, 5]), ([6, 3], [6]), ([3, 7], [3, 7]), ([8], [8]), ([], []), ([9, 10], [9, 10]), ([11, 7], [11]), ([12], [12]), ([13, 12, 12], [12, 13]), ([12], [12]), ([14, 15, 12], [12, 14, 15]), ([12, 16], [12, 16]), ([17, 14], [17]), ([18], [18]), ([19, 18], [18, 19]), ([20, 18, 18], [18, 20]), ([18], [18]), ([22, 18], [18, 22]), ([23, 18], [18, 23]), ([24, 21, 18], [18, 24]), ([21, 25, 18], [18, 21, 25]), ([18, 26], [18, 26]), ([27, 25, 0, 1, 2, 3, 4, 5, 6, 7, 8, 9, 10, 11, 12, 13, 14, 15, 16, 17, 18, 19, 20, 21, 22, 23, 24, 25, 26, 27], [27])])
def laws_FnPairsDigest.B15 : List Nat := [0, 0, 3, 7, 0, 0, 48, 127, 255, 511, 0, 2047, 4095, 8191, 16383, 8191, 65535, 131071, 262143, 524287, 1048575, 2097151, 524287, 4718591, 13107199, 33554431, 67108863, 134217727, 268435455]
theorem laws_FnPairsDigest.tab15 : rtab .any (opsOf Try.f3 15) = laws_FnPairsDigest.T15 := by kernel_rfl
theorem laws_FnPairsDigest.bits15 : waitsOk laws_FnPairsDigest.T15.2 laws_FnPairsDigest.B15 = true := by kernel_rfl
theorem laws_FnPairsDigest.s0 {P0 Q : Prop} (B0 : P0) (h : P0 → Q := by (intro b0_; repeat (first | exact (Kd.R_reads' b0_).2.2 | (with_reducible refine Kd.C_alloc ?_ _) | (with_reducible refine Kd.C_drewN ?_ _) | (with_reducible refine Kd.C_drew ?_)))) : Q := h B0
theorem laws_FnPairsDigest.s1 {P0 Q : Prop} (B0 : P0) (h : P0 → Q := by (intro b0_; repeat (first | (with_reducible exact b0_) | (with_reducible refine Kd.C_alloc ?_ _) | (with_reducible refine Kd.C_drewN ?_ _) | (with_reducible refine Kd.C_drew ?_) | exact b0_))) : Q := h B0
def laws_FnPairsDigest.m0 : Array Bool := #[o_, o_, o_, o_, o_, o_, o_, o_, o_, o_, o_, o_, o_, o_, o_, o_, o_, o_, o_, o_, o_, o_, o_, o_, o_, o_, o_, o_, o_]
def laws_FnPairsDigest.m1 : Array Bool := #[i_, o_, o_, o_, o_, o_, o_, o_, o_, o_, o_, o_, o_, o_, o_, o_, o_, o_, o_, o_, o_, o_, o_, o_, o_, o_, o_, o_, o_]
def laws_FnPairsDigest.m2 : Array Bool := #[i_, i_, o_, o_, o_, o_, o_, o_, o_, o_, o_, o_, o_, o_, o_, o_, o_, o_, o_, o_, o_, o_, o_, o_, o_, o_, o_, o_, o_]
def laws_FnPairsDigest.m3 : Array Bool := #[i_, i_, i_, o_, o_, o_, o_, o_, o_, o_, o_, o_, o_, o_, o_, o_, o_, o_, o_, o_, o_, o_, o_, o_, o_, o_, o_, o_, o_]
def laws_FnPairsDigest.m4 : Array Bool := #[i_, i_, i_, o_, i_, o_, o_, o_, o_, o_, o_, o_, o_, o_, o_, o_, o_, o_, o_, o_, o_, o_, o_, o_, o_, o_, o_, o_, o_]
def laws_FnPairsDigest.m5 : Array Bool := #[i_, i_, i_, o_, i_, i_, o_, o_, o_, o_, o_, o_, o_, o_, o_, o_, o_, o_, o_, o_, o_, o_, o_, o_, o_, o_, o_, o_, o_]
def laws_FnPairsDigest.m6 : Array Bool := #[i_, i_, i_, o_, i_, i_, i_, o_, o_, o_, o_, o_, o_, o_, o_, o_, o_, o_, o_, o_, o_, o_, o_, o_, o_, o_, o_, o_, o_]
def laws_FnPairsDigest.m7 : Array Bool := #[i_, i_, i_, o_, i_, i_, i_, o_, o_, o_, i_, o_, o_, o_, o_, o_, o_, o_, o_, o_, o_, o_, o_, o_, o_, o_, o_, o_, o_]
def laws_FnPairsDigest.m8 : Array Bool := #[i_, i_, i_, i_, i_, i_, i_, o_, o_, o_, i_, o_, o_, o_, o_, o_, o_, o_, o_, o_, o_, o_, o_, o_, o_, o_, o_, o_, o_]
def laws_FnPairsDigest.m9 : Array Bool := #[i_, i_, i_, i_, i_, i_, i_, i_, o_, o_, i_, o_, o_, o_, o_, o_, o_, o_, o_, o_, o_, o_, o_, o_, o_, o_, o_, o_, o_]
def laws_FnPairsDigest.m10 : Array Bool := #[i_, i_, i_, i_, i_, i_, i_, i_, i_, o_, i_, o_, o_, o_, o_, o_, o_, o_, o_, o_, o_, o_, o_, o_, o_, o_, o_, o_, o_]
def laws_FnPairsDigest.m11 : Array Bool := #[i_, i_, i_, i_, i_, i_, i_, i_, i_, i_, i_, o_, o_, o_, o_, o_, o_, o_, o_, o_, o_, o_, o_, o_, o_, o_, o_, o_, o_]
def laws_FnPairsDigest.m12 : Array Bool := #[i_, i_, i_, i_, i_, i_, i_, i_, i_, i_, i_, i_, o_, o_, o_, o_, o_, o_, o_, o_, o_, o_, o_, o_, o_, o_, o_, o_, o_]
def laws_FnPairsDigest.m13 : Array Bool := #[i_, i_, i_, i_, i_, i_, i_, i_, i_, i_, i_, i_, i_, o_, o_, o_, o_, o_, o_, o_, o_, o_, o_, o_, o_, o_, o_, o_, o_]
def laws_FnPairsDigest.m14 : Array Bool := #[i_, i_, i_, i_, i_, i_, i_, i_, i_, i_, i_, i_, i_, i_, o_, o_, o_, o_, o_, o_, o_, o_, o_, o_, o_, o_, o_, o_, o_]
def laws_FnPairsDigest.m15 : Array Bool := #[i_, i_, i_, i_, i_, i_, i_, i_, i_, i_, i_, i_, i_, i_, o_, i_, o_, o_, o_, o_, o_, o_, o_, o_, o_, o_, o_, o_, o_]
def laws_FnPairsDigest.m16 : Array Bool := #[i_, i_, i_, i_, i_, i_, i_, i_, i_, i_, i_, i_, i_, i_, i_, i_, o_, o_, o_, o_, o_, o_, o_, o_, o_, o_, o_, o_, o_]
def laws_FnPairsDigest.m17 : Array Bool := #[i_, i_, i_, i_, i_, i_, i_, i_, i_, i_, i_, i_, i_, i_, i_, i_, i_, o_, o_, o_, o_, o_, o_, o_, o_, o_, o_, o_, o_]
def laws_FnPairsDigest.m18 : Array Bool := #[i_, i_, i_, i_, i_, i_, i_, i_, i_, i_, i_, i_, i_, i_, i_, i_, i_, i_, o_, o_, o_, o_, o_, o_, o_, o_, o_, o_, o_]
def laws_FnPairsDigest.m19 : Array Bool := #[i_, i_, i_, i_, i_, i_, i_, i_, i_, i_, i_, i_, i_, i_, i_, i_, i_, i_, i_, o_, o_, o_, o_, o_, o_, o_, o_, o_, o_]
def laws_FnPairsDigest.m20 : Array Bool := #[i_, i_, i_, i_, i_, i_, i_, i_, i_, i_, i_, i_, i_, i_, i_, i_, i_, i_, i_, i_, o_, o_, o_, o_, o_, o_, o_, o_, o_]
def laws_FnPairsDigest.m21 : Array Bool := #[i_, i_, i_, i_, i_, i_, i_, i_, i_, i_, i_, i_, i_, i_, i_, i_, i_, i_, i_, i_, i_, o_, o_, o_, o_, o_, o_, o_, o_]
def laws_FnPairsDigest.m22 : Array Bool := #[i_, i_, i_, i_, i_, i_, i_, i_, i_, i_, i_, i_, i_, i_, i_, i_, i_, i_, i_, i_, i_, o_, i_, o_, o_, o_, o_, o_, o_]
def laws_FnPairsDigest.m23 : Array Bool := #[i_, i_, i_, i_, i_, i_, i_, i_, i_, i_, i_, i_, i_, i_, i_, i_, i_, i_, i_, i_, i_, o_, i_, i_, o_, o_, o_, o_, o_]
def laws_FnPairsDigest.m24 : Array Bool := #[i_, i_, i_, i_, i_, i_, i_, i_, i_, i_, i_, i_, i_, i_, i_, i_, i_, i_, i_, i_, i_, o_, i_, i_, i_, o_, o_, o_, o_]
def laws_FnPairsDigest.m25 : Array Bool := #[i_, i_, i_, i_, i_, i_, i_, i_, i_, i_, i_, i_, i_, i_, i_, i_, i_, i_, i_, i_, i_, i_, i_, i_, i_, o_, o_, o_, o_]
def laws_FnPairsDigest.m26 : Array Bool := #[i_, i_, i_, i_, i_, i_, i_, i_, i_, i_, i_, i_, i_, i_, i_, i_, i_, i_, i_, i_, i_, i_, i_, i_, i_, i_, o_, o_, o_]
def laws_FnPairsDigest.m27 : Array Bool := #[i_, i_, i_, i_, i_, i_, i_, i_, i_, i_, i_, i_, i_, i_, i_, i_, i_, i_, i_, i_, i_, i_, i_, i_, i_, i_, i_, o_, o_]
def laws_FnPairsDigest.m28 : Array Bool := #[i_, i_, i_, i_, i_, i_, i_, i_, i_, i_, i_, i_, i_, i_, i_, i_, i_, i_, i_, i_, i_, i_, i_, i_, i_, i_, i_, i_, o_]
def laws_FnPairsDigest.m29 : Array Bool := #[i_, i_, i_, i_, i_, i_, i_, i_, i_, i_, i_, i_, i_, i_, i_, i_, i_, i_, i_, i_, i_, i_, i_, i_, i_, i_, i_, i_, i_]
set_option maxHeartbeats 8000000 in
set_option maxRecDepth 100000 in
theorem laws_FnPairsDigest.calls (k : Nat) (A0 : Option Addr) (c0 : Nat) (l0 : List Int) (r : Bool) (w : World) (hr0 : Kd.C (Kd.int .u8) w A0 l0.length l0) (hc0 : l0.length ≤ c0) (h : laws_FnPairsDigest.f k l0 = some r) (hrt : Aside0 (r = true)) :
    Calls Try.prog 3 #[.slice A0 l0.length c0] w fun e w' => e = .returned (.bool r) ∧ Below w.heap.size w w' := by
  have hu29 := Try.underlying29
  have HR0 := Aside0.mk hr0
  have HC0 := Aside0.mk hc0
  clear hr0 hc0
  have HB := Aside0.mk (Below.refl w.heap.size w)
  have H : (if (l0.length : Int) > 1048576 then (some true) else ((spec_DrawPairsDigest.f k l0).bind fun t266 => ((impl_PairsDigest.f k t266).bind fun t269 => ((spec_PairsDigest.f k t266).bind fun t270 => (if t269 = t270 then (if t269 < 0 then (if t269 = (-1) then ((impl_PairsValid.f k t266).bind fun t271 => (if t271 = true then (some false) else ((laws_alive.f k).bind fun t272 => (some t272)))) else (some false)) else (if (t266.length : Int) = 0 then (if t269 = 0 then ((laws_alive.f k).bind fun t273 => (some t273)) else (some false)) else ((some (([] : List (S29)) : List (S29))).bind fun y274 => (if y274.length + t266.length < 5864062014805 then ((some (y274 ++ t266 : List (S29))).bind fun y277 => (if 0 ≤ ((l0.length : Int) % (t266.length : Int)) then (if ((l0.length : Int) % (t266.length : Int)) < (t266.length : Int) then (if ((l0.length : Int) % (t266.length : Int)) < (y277.length : Int) then (if 0 ≤ (wrap64 ((t266.length : Int) / 2)) then (if (wrap64 ((t266.length : Int) / 2)) ≤ (t266.length : Int) then ((impl_PairsDigest.f k (t266.take ((wrap64 ((t266.length : Int) / 2)) : Int).toNat)).bind fun t286 => ((impl_PairsDigest.f k (t266.drop ((wrap64 ((t266.length : Int) / 2)) : Int).toNat)).bind fun t291 => (if (Int.tmod (wrap64 (t286 + t291)) 99991) = t269 then ((impl_PairsDigest.f k (y277.set (((l0.length : Int) % (t266.length : Int)) : Int).toNat (⟨(rd_T29 y277 ((l0.length : Int) % (t266.length : Int))).f0, Int.tmod (wrap64 ((wrap64 (((rd_T29 t266 ((l0.length : Int) % (t266.length : Int))).f1) + 1)) + ((l0.length : Int) % 999))) 1000⟩ : S29))).bind fun t292 => (if t292 = t269 then (some false) else (if 1 ≤ (t266.length : Int) then ((impl_PairsDigest.f k (t266.take 1)).bind fun t297 => (if 0 < (t266.length : Int) then ((impl_PairDigest.f k ((rd_T29 t266 0).f0) ((rd_T29 t266 0).f1)).bind fun t299 => (some (t297 == t299))) else (none))) else (none)))) else (some false)))) else (none)) else (none)) else (none)) else (none)) else (none))) else (none))))) else (some false)))))) = some r := h
  clear h
  by_cases c2 : (l0.length : Int) > 1048576
  · rw [if_pos c2] at H
    have c2b0 : decide (1048576 < (l0.length : Int)) = true := decide_eq_true c2
    have c2b1 : decide (1048576 < l0.length) = true := decide_eq_true (by omega)
    clear c2
    obtain rfl := Option.some.inj H
    go_enter Try.func3, Try.ntmps3
    go_wp2
    go_ret
    exact ⟨fe, bp HB.out⟩
  · rw [if_neg c2] at H
    have c2b0 : decide (1048576 < (l0.length : Int)) = false := decide_eq_false c2
    have c2b1 : decide (1048576 < l0.length) = false := decide_eq_false (by omega)
    clear c2
    replace H := Option.bind_eq_some_iff.mp H
    obtain ⟨t266, A30, H⟩ := H
    replace H : ((impl_PairsDigest.f k t266).bind fun t269 => ((spec_PairsDigest.f k t266).bind fun t270 => (if t269 = t270 then (if t269 < 0 then (if t269 = (-1) then ((impl_PairsValid.f k t266).bind fun t271 => (if t271 = true then (some false) else ((laws_alive.f k).bind fun t272 => (some t272)))) else (some false)) else (if (t266.length : Int) = 0 then (if t269 = 0 then ((laws_alive.f k).bind fun t273 => (some t273)) else (some false)) else ((some (([] : List (S29)) : List (S29))).bind fun y274 => (if y274.length + t266.length < 5864062014805 then ((some (y274 ++ t266 : List (S29))).bind fun y277 => (if 0 ≤ ((l0.length : Int) % (t266.length : Int)) then (if ((l0.length : Int) % (t266.length : Int)) < (t266.length : Int) then (if ((l0.length : Int) % (t266.length : Int)) < (y277.length : Int) then (if 0 ≤ (wrap64 ((t266.length : Int) / 2)) then (if (wrap64 ((t266.length : Int) / 2)) ≤ (t266.length : Int) then ((impl_PairsDigest.f k (t266.take ((wrap64 ((t266.length : Int) / 2)) : Int).toNat)).bind fun t286 => ((impl_PairsDigest.f k (t266.drop ((wrap64 ((t266.length : Int) / 2)) : Int).toNat)).bind fun t291 => (if (Int.tmod (wrap64 (t286 + t291)) 99991) = t269 then ((impl_PairsDigest.f k (y277.set (((l0.length : Int) % (t266.length : Int)) : Int).toNat (⟨(rd_T29 y277 ((l0.length : Int) % (t266.length : Int))).f0, Int.tmod (wrap64 ((wrap64 (((rd_T29 t266 ((l0.length : Int) % (t266.length : Int))).f1) + 1)) + ((l0.length : Int) % 999))) 1000⟩ : S29))).bind fun t292 => (if t292 = t269 then (some false) else (if 1 ≤ (t266.length : Int) then ((impl_PairsDigest.f k (t266.take 1)).bind fun t297 => (if 0 < (t266.length : Int) then ((impl_PairDigest.f k ((rd_T29 t266 0).f0) ((rd_T29 t266 0).f1)).bind fun t299 => (some (t297 == t299))) else (none))) else (none)))) else (some false)))) else (none)) else (none)) else (none)) else (none)) else (none))) else (none))))) else (some false)))) = some r := H
    have A3 := Aside0.mk A30
    clear A30
    replace H := Option.bind_eq_some_iff.mp H
    obtain ⟨t269, A40, H⟩ := H
    replace H : ((spec_PairsDigest.f k t266).bind fun t270 => (if t269 = t270 then (if t269 < 0 then (if t269 = (-1) then ((impl_PairsValid.f k t266).bind fun t271 => (if t271 = true then (some false) else ((laws_alive.f k).bind fun t272 => (some t272)))) else (some false)) else (if (t266.length : Int) = 0 then (if t269 = 0 then ((laws_alive.f k).bind fun t273 => (some t273)) else (some false)) else ((some (([] : List (S29)) : List (S29))).bind fun y274 => (if y274.length + t266.length < 5864062014805 then ((some (y274 ++ t266 : List (S29))).bind fun y277 => (if 0 ≤ ((l0.length : Int) % (t266.length : Int)) then (if ((l0.length : Int) % (t266.length : Int)) < (t266.length : Int) then (if ((l0.length : Int) % (t266.length : Int)) < (y277.length : Int) then (if 0 ≤ (wrap64 ((t266.length : Int) / 2)) then (if (wrap64 ((t266.length : Int) / 2)) ≤ (t266.length : Int) then ((impl_PairsDigest.f k (t266.take ((wrap64 ((t266.length : Int) / 2)) : Int).toNat)).bind fun t286 => ((impl_PairsDigest.f k (t266.drop ((wrap64 ((t266.length : Int) / 2)) : Int).toNat)).bind fun t291 => (if (Int.tmod (wrap64 (t286 + t291)) 99991) = t269 then ((impl_PairsDigest.f k (y277.set (((l0.length : Int) % (t266.length : Int)) : Int).toNat (⟨(rd_T29 y277 ((l0.length : Int) % (t266.length : Int))).f0, Int.tmod (wrap64 ((wrap64 (((rd_T29 t266 ((l0.length : Int) % (t266.length : Int))).f1) + 1)) + ((l0.length : Int) % 999))) 1000⟩ : S29))).bind fun t292 => (if t292 = t269 then (some false) else (if 1 ≤ (t266.length : Int) then ((impl_PairsDigest.f k (t266.take 1)).bind fun t297 => (if 0 < (t266.length : Int) then ((impl_PairDigest.f k ((rd_T29 t266 0).f0) ((rd_T29 t266 0).f1)).bind fun t299 => (some (t297 == t299))) else (none))) else (none)))) else (some false)))) else (none)) else (none)) else (none)) else (none)) else (none))) else (none))))) else (some false))) = some r := H
    have A4 := Aside0.mk A40
    clear A40
    replace H := Option.bind_eq_some_iff.mp H
    obtain ⟨t270, A50, H⟩ := H
    replace H : (if t269 = t270 then (if t269 < 0 then (if t269 = (-1) then ((impl_PairsValid.f k t266).bind fun t271 => (if t271 = true then (some false) else ((laws_alive.f k).bind fun t272 => (some t272)))) else (some false)) else (if (t266.length : Int) = 0 then (if t269 = 0 then ((laws_alive.f k).bind fun t273 => (some t273)) else (some false)) else ((some (([] : List (S29)) : List (S29))).bind fun y274 => (if y274.length + t266.length < 5864062014805 then ((some (y274 ++ t266 : List (S29))).bind fun y277 => (if 0 ≤ ((l0.length : Int) % (t266.length : Int)) then (if ((l0.length : Int) % (t266.length : Int)) < (t266.length : Int) then (if ((l0.length : Int) % (t266.length : Int)) < (y277.length : Int) then (if 0 ≤ (wrap64 ((t266.length : Int) / 2)) then (if (wrap64 ((t266.length : Int) / 2)) ≤ (t266.length : Int) then ((impl_PairsDigest.f k (t266.take ((wrap64 ((t266.length : Int) / 2)) : Int).toNat)).bind fun t286 => ((impl_PairsDigest.f k (t266.drop ((wrap64 ((t266.length : Int) / 2)) : Int).toNat)).bind fun t291 => (if (Int.tmod (wrap64 (t286 + t291)) 99991) = t269 then ((impl_PairsDigest.f k (y277.set (((l0.length : Int) % (t266.length : Int)) : Int).toNat (⟨(rd_T29 y277 ((l0.length : Int) % (t266.length : Int))).f0, Int.tmod (wrap64 ((wrap64 (((rd_T29 t266 ((l0.length : Int) % (t266.length : Int))).f1) + 1)) + ((l0.length : Int) % 999))) 1000⟩ : S29))).bind fun t292 => (if t292 = t269 then (some false) else (if 1 ≤ (t266.length : Int) then ((impl_PairsDigest.f k (t266.take 1)).bind fun t297 => (if 0 < (t266.length : Int) then ((impl_PairDigest.f k ((rd_T29 t266 0).f0) ((rd_T29 t266 0).f1)).bind fun t299 => (some (t297 == t299))) else (none))) else (none)))) else (some false)))) else (none)) else (none)) else (none)) else (none)) else (none))) else (none))))) else (some false)) = some r := H
    have A5 := Aside0.mk A50
    clear A50
    by_cases c6 : t269 = t270
    · rw [if_pos c6] at H
      have c6b0 : (t269 == t270) = true := beq_iff_eq.mpr c6
      have c6b1 : (t269 != t270) = false := bne_eq_false_iff_eq.mpr c6
      clear c6
      by_cases c7 : t269 < 0
      · rw [if_pos c7] at H
        have c7b0 : decide (t269 < 0) = true := decide_eq_true c7
        clear c7
        by_cases c8 : t269 = (-1)
        · rw [if_pos c8] at H
          have c8b0 : (t269 == (-1)) = true := beq_iff_eq.mpr c8
          have c8b1 : (t269 != (-1)) = false := bne_eq_false_iff_eq.mpr c8
          clear c8
          replace H := Option.bind_eq_some_iff.mp H
          obtain ⟨t271, A90, H⟩ := H
          replace H : (if t271 = true then (some false) else ((laws_alive.f k).bind fun t272 => (some t272))) = some r := H
          have A9 := Aside0.mk A90
          clear A90
          by_cases c10 : t271 = true
          · subst c10
            have H1 : (some false) = some r := by rw [if_pos rfl] at H; exact H
            clear H
            have H := H1
            clear H1
            obtain rfl := Option.some.inj H
            exact absurd hrt.out (by simp)
          · replace c10 := Bool.eq_false_iff.mpr c10
            subst c10
            have H1 : ((laws_alive.f k).bind fun t272 => (some t272)) = some r := by rw [if_neg (show ¬ (false = true) by decide)] at H; exact H
            clear H
            have H := H1
            clear H1
            replace H := Option.bind_eq_some_iff.mp H
            obtain ⟨t272, A110, H⟩ := H
            replace H : (some t272) = some r := H
            have A11 := Aside0.mk A110
            clear A110
            obtain rfl := Option.some.inj H
            go_enter Try.func3, Try.ntmps3
            go_wp2_with (first | ((with_reducible refine gate_callee (f := 14) rfl ?_); refine gsl (some 12) rfl Try.func14 #[.slice A0 l0.length c0] rfl ?_; (with_reducible refine (spec_DrawPairsDigest.calls k _ _ l0 t266 _ ?side1 ?side2 A3.out).mono ?_); (case side1 => exact cc HR0.out); (case side2 => exact HC0.out); rintro e w12 ⟨v267, rfl, ho0, hb⟩; refine ⟨_, rfl, ?_⟩; have n0_ := Aside0.mk (Kd.R_lower ho0 (below_size (bp HB.out))); have n1_ := an0 HB hb; clear HB; have HO268 := n0_; have HB := n1_; clear n0_ n1_; (try clear hb); (try clear hb2); (try clear hk); (try clear hi); (try clear ho0); obtain ⟨Ao13, co13, eo13⟩ := Kd.R_slice HO268.out; subst eo13) | ((with_reducible refine gate_callee (f := 15) rfl ?_); refine gsl (some 14) rfl Try.func15 #[.slice Ao13 t266.length co13] rfl ?_; (with_reducible refine (impl_PairsDigest.calls k _ _ t266 t269 _ ?side1 ?side2 A4.out).mono ?_); (case side1 => exact laws_FnPairsDigest.s0 HO268.out); (case side2 => exact (Kd.R_reads' HO268.out).2.1); rintro e w14 ⟨rfl, hb⟩; refine ⟨_, rfl, ?_⟩; have n0_ := Aside0.mk (Kd.R_below (kr HO268.out) hb); have n1_ := an0 HB hb; clear HO268; clear HB; have HO268 := n0_; have HB := n1_; clear n0_ n1_; (try clear hb); (try clear hb2); (try clear hk); (try clear hi)) | ((with_reducible refine gate_callee (f := 16) rfl ?_); refine gsl (some 17) rfl Try.func16 #[.slice Ao13 t266.length co13] rfl ?_; (with_reducible refine (spec_PairsDigest.calls k _ _ t266 t270 _ ?side1 ?side2 A5.out).mono ?_); (case side1 => exact laws_FnPairsDigest.s0 HO268.out); (case side2 => exact (Kd.R_reads' HO268.out).2.1); rintro e w15 ⟨rfl, hb⟩; refine ⟨_, rfl, ?_⟩; have n0_ := Aside0.mk (Kd.R_below (kr HO268.out) hb); have n1_ := an0 HB hb; clear HO268; clear HB; have HO268 := n0_; have HB := n1_; clear n0_ n1_; (try clear hb); (try clear hb2); (try clear hk); (try clear hi)) | (go_at_call 17; (with_reducible refine (impl_PairsValid.calls k _ _ t266 false _ ?side1 ?side2 A9.out).mono ?_); (case side1 => exact laws_FnPairsDigest.s0 HO268.out); (case side2 => exact (Kd.R_reads' HO268.out).2.1); rintro e w16 ⟨rfl, hb⟩; have n0_ := Aside0.mk (Kd.R_below (kr HO268.out) hb); have n1_ := an0 HB hb; clear HO268; clear HB; have HO268 := n0_; have HB := n1_; clear n0_ n1_; (try clear hb); (try clear hb2); (try clear hk); (try clear hi)) | (go_at_call 18; (with_reducible refine (laws_alive.calls k  t272 _ A11.out).mono ?_); rintro e w17 ⟨rfl, hb⟩; have n0_ := Aside0.mk (Kd.R_below (kr HO268.out) hb); have n1_ := an0 HB hb; clear HO268; clear HB; have HO268 := n0_; have HB := n1_; clear n0_ n1_; (try clear hb); (try clear hb2); (try clear hk); (try clear hi)))
            go_ret
            exact ⟨fe, bp HB.out⟩
        · rw [if_neg c8] at H
          have c8b0 : (t269 == (-1)) = false := beq_eq_false_iff_ne.mpr c8
          have c8b1 : (t269 != (-1)) = true := bne_iff_ne.mpr c8
          obtain rfl := Option.some.inj H
          exact absurd hrt.out (by simp)
      · rw [if_neg c7] at H
        have c7b0 : decide (t269 < 0) = false := decide_eq_false c7
        clear c7
        by_cases c18 : (t266.length : Int) = 0
        · rw [if_pos c18] at H
          have c18b0 : ((t266.length : Int) == 0) = true := beq_iff_eq.mpr c18
          have c18b1 : ((t266.length : Int) != 0) = false := bne_eq_false_iff_eq.mpr c18
          clear c18
          by_cases c19 : t269 = 0
          · rw [if_pos c19] at H
            have c19b0 : (t269 == 0) = true := beq_iff_eq.mpr c19
            have c19b1 : (t269 != 0) = false := bne_eq_false_iff_eq.mpr c19
            clear c19
            replace H := Option.bind_eq_some_iff.mp H
            obtain ⟨t273, A200, H⟩ := H
            replace H : (some t273) = some r := H
            have A20 := Aside0.mk A200
            clear A200
            obtain rfl := Option.some.inj H
            go_enter Try.func3, Try.ntmps3
            go_wp2_with (first | ((with_reducible refine gate_callee (f := 14) rfl ?_); refine gsl (some 12) rfl Try.func14 #[.slice A0 l0.length c0] rfl ?_; (with_reducible refine (spec_DrawPairsDigest.calls k _ _ l0 t266 _ ?side1 ?side2 A3.out).mono ?_); (case side1 => exact cc HR0.out); (case side2 => exact HC0.out); rintro e w21 ⟨v267, rfl, ho0, hb⟩; refine ⟨_, rfl, ?_⟩; have n0_ := Aside0.mk (Kd.R_lower ho0 (below_size (bp HB.out))); have n1_ := an0 HB hb; clear HB; have HO268 := n0_; have HB := n1_; clear n0_ n1_; (try clear hb); (try clear hb2); (try clear hk); (try clear hi); (try clear ho0); obtain ⟨Ao22, co22, eo22⟩ := Kd.R_slice HO268.out; subst eo22) | ((with_reducible refine gate_callee (f := 15) rfl ?_); refine gsl (some 14) rfl Try.func15 #[.slice Ao22 t266.length co22] rfl ?_; (with_reducible refine (impl_PairsDigest.calls k _ _ t266 t269 _ ?side1 ?side2 A4.out).mono ?_); (case side1 => exact laws_FnPairsDigest.s0 HO268.out); (case side2 => exact (Kd.R_reads' HO268.out).2.1); rintro e w23 ⟨rfl, hb⟩; refine ⟨_, rfl, ?_⟩; have n0_ := Aside0.mk (Kd.R_below (kr HO268.out) hb); have n1_ := an0 HB hb; clear HO268; clear HB; have HO268 := n0_; have HB := n1_; clear n0_ n1_; (try clear hb); (try clear hb2); (try clear hk); (try clear hi)) | ((with_reducible refine gate_callee (f := 16) rfl ?_); refine gsl (some 17) rfl Try.func16 #[.slice Ao22 t266.length co22] rfl ?_; (with_reducible refine (spec_PairsDigest.calls k _ _ t266 t270 _ ?side1 ?side2 A5.out).mono ?_); (case side1 => exact laws_FnPairsDigest.s0 HO268.out); (case side2 => exact (Kd.R_reads' HO268.out).2.1); rintro e w24 ⟨rfl, hb⟩; refine ⟨_, rfl, ?_⟩; have n0_ := Aside0.mk (Kd.R_below (kr HO268.out) hb); have n1_ := an0 HB hb; clear HO268; clear HB; have HO268 := n0_; have HB := n1_; clear n0_ n1_; (try clear hb); (try clear hb2); (try clear hk); (try clear hi)) | (go_at_call 18; (with_reducible refine (laws_alive.calls k  t273 _ A20.out).mono ?_); rintro e w25 ⟨rfl, hb⟩; have n0_ := Aside0.mk (Kd.R_below (kr HO268.out) hb); have n1_ := an0 HB hb; clear HO268; clear HB; have HO268 := n0_; have HB := n1_; clear n0_ n1_; (try clear hb); (try clear hb2); (try clear hk); (try clear hi)))
            go_ret
            exact ⟨fe, bp HB.out⟩
          · rw [if_neg c19] at H
            have c19b0 : (t269 == 0) = false := beq_eq_false_iff_ne.mpr c19
            have c19b1 : (t269 != 0) = true := bne_iff_ne.mpr c19
            obtain rfl := Option.some.inj H
            exact absurd hrt.out (by simp)
        · rw [if_neg c18] at H
          have c18b0 : ((t266.length : Int) == 0) = false := beq_eq_false_iff_ne.mpr c18
          have c18b1 : ((t266.length : Int) != 0) = true := bne_iff_ne.mpr c18
          have c18b2 : ¬ (t266 = []) := fun h_ => c18 (by rw [h_]; rfl)
          obtain ⟨y274, hy274⟩ : ∃ y_ : List (S29), y_ = (([] : List (S29))) := ⟨_, rfl⟩
          replace H : (if y274.length + t266.length < 5864062014805 then ((some (y274 ++ t266 : List (S29))).bind fun y277 => (if 0 ≤ ((l0.length : Int) % (t266.length : Int)) then (if ((l0.length : Int) % (t266.length : Int)) < (t266.length : Int) then (if ((l0.length : Int) % (t266.length : Int)) < (y277.length : Int) then (if 0 ≤ (wrap64 ((t266.length : Int) / 2)) then (if (wrap64 ((t266.length : Int) / 2)) ≤ (t266.length : Int) then ((impl_PairsDigest.f k (t266.take ((wrap64 ((t266.length : Int) / 2)) : Int).toNat)).bind fun t286 => ((impl_PairsDigest.f k (t266.drop ((wrap64 ((t266.length : Int) / 2)) : Int).toNat)).bind fun t291 => (if (Int.tmod (wrap64 (t286 + t291)) 99991) = t269 then ((impl_PairsDigest.f k (y277.set (((l0.length : Int) % (t266.length : Int)) : Int).toNat (⟨(rd_T29 y277 ((l0.length : Int) % (t266.length : Int))).f0, Int.tmod (wrap64 ((wrap64 (((rd_T29 t266 ((l0.length : Int) % (t266.length : Int))).f1) + 1)) + ((l0.length : Int) % 999))) 1000⟩ : S29))).bind fun t292 => (if t292 = t269 then (some false) else (if 1 ≤ (t266.length : Int) then ((impl_PairsDigest.f k (t266.take 1)).bind fun t297 => (if 0 < (t266.length : Int) then ((impl_PairDigest.f k ((rd_T29 t266 0).f0) ((rd_T29 t266 0).f1)).bind fun t299 => (some (t297 == t299))) else (none))) else (none)))) else (some false)))) else (none)) else (none)) else (none)) else (none)) else (none))) else (none)) = some r := by first | (rw [hy274]; with_reducible exact H) | (have H2_ := (Option.bind_some _ _).symm.trans H; rw [hy274]; with_reducible exact H2_) | (have H2_ := (Option.bind_some _ _).symm.trans H; with_reducible exact H2_) | with_reducible exact H | (rw [hy274]; exact H) | exact H
          have Ny274 := Aside0.mk hy274
          clear hy274
          by_cases c26 : y274.length + t266.length < 5864062014805
          · rw [if_pos c26] at H
            have LMc26 := Aside0.mk c26
            clear c26
            obtain ⟨y277, hy277⟩ : ∃ y_ : List (S29), y_ = (y274 ++ t266) := ⟨_, rfl⟩
            replace H : (if 0 ≤ ((l0.length : Int) % (t266.length : Int)) then (if ((l0.length : Int) % (t266.length : Int)) < (t266.length : Int) then (if ((l0.length : Int) % (t266.length : Int)) < (y277.length : Int) then (if 0 ≤ (wrap64 ((t266.length : Int) / 2)) then (if (wrap64 ((t266.length : Int) / 2)) ≤ (t266.length : Int) then ((impl_PairsDigest.f k (t266.take ((wrap64 ((t266.length : Int) / 2)) : Int).toNat)).bind fun t286 => ((impl_PairsDigest.f k (t266.drop ((wrap64 ((t266.length : Int) / 2)) : Int).toNat)).bind fun t291 => (if (Int.tmod (wrap64 (t286 + t291)) 99991) = t269 then ((impl_PairsDigest.f k (y277.set (((l0.length : Int) % (t266.length : Int)) : Int).toNat (⟨(rd_T29 y277 ((l0.length : Int) % (t266.length : Int))).f0, Int.tmod (wrap64 ((wrap64 (((rd_T29 t266 ((l0.length : Int) % (t266.length : Int))).f1) + 1)) + ((l0.length : Int) % 999))) 1000⟩ : S29))).bind fun t292 => (if t292 = t269 then (some false) else (if 1 ≤ (t266.length : Int) then ((impl_PairsDigest.f k (t266.take 1)).bind fun t297 => (if 0 < (t266.length : Int) then ((impl_PairDigest.f k ((rd_T29 t266 0).f0) ((rd_T29 t266 0).f1)).bind fun t299 => (some (t297 == t299))) else (none))) else (none)))) else (some false)))) else (none)) else (none)) else (none)) else (none)) else (none)) = some r := by first | (rw [hy277]; with_reducible exact H) | (have H2_ := (Option.bind_some _ _).symm.trans H; rw [hy277]; with_reducible exact H2_) | (have H2_ := (Option.bind_some _ _).symm.trans H; with_reducible exact H2_) | with_reducible exact H | (rw [hy277]; exact H) | exact H
            have Ny277 := Aside0.mk hy277
            clear hy277
            obtain ⟨ji27, hji27⟩ : ∃ j_ : Int, ((l0.length : Int) % (t266.length : Int)) = j_ := ⟨_, rfl⟩
            replace H : (if 0 ≤ (ji27) then (if (ji27) < (t266.length : Int) then (if (ji27) < (y277.length : Int) then (if 0 ≤ (wrap64 ((t266.length : Int) / 2)) then (if (wrap64 ((t266.length : Int) / 2)) ≤ (t266.length : Int) then ((impl_PairsDigest.f k (t266.take ((wrap64 ((t266.length : Int) / 2)) : Int).toNat)).bind fun t286 => ((impl_PairsDigest.f k (t266.drop ((wrap64 ((t266.length : Int) / 2)) : Int).toNat)).bind fun t291 => (if (Int.tmod (wrap64 (t286 + t291)) 99991) = t269 then ((impl_PairsDigest.f k (y277.set ((ji27) : Int).toNat (⟨(rd_T29 y277 (ji27)).f0, Int.tmod (wrap64 ((wrap64 (((rd_T29 t266 (ji27)).f1) + 1)) + ((l0.length : Int) % 999))) 1000⟩ : S29))).bind fun t292 => (if t292 = t269 then (some false) else (if 1 ≤ (t266.length : Int) then ((impl_PairsDigest.f k (t266.take 1)).bind fun t297 => (if 0 < (t266.length : Int) then ((impl_PairDigest.f k ((rd_T29 t266 0).f0) ((rd_T29 t266 0).f1)).bind fun t299 => (some (t297 == t299))) else (none))) else (none)))) else (some false)))) else (none)) else (none)) else (none)) else (none)) else (none)) = some r := by first | (rw [hji27] at H; exact H) | (simp only [hji27] at H ⊢; exact H)
            (try rw [hji27] at A3)
            (try rw [hji27] at A4)
            (try rw [hji27] at A5)
            by_cases c28 : 0 ≤ (ji27)
            · rw [if_pos c28] at H
              have c28b0 : decide (0 ≤ (ji27)) = true := decide_eq_true c28
              clear c28
              by_cases c29 : (ji27) < (t266.length : Int)
              · rw [if_pos c29] at H
                have c29b0 : decide ((ji27) < (t266.length : Int)) = true := decide_eq_true c29
                clear c29
                by_cases c30 : (ji27) < (y277.length : Int)
                · rw [if_pos c30] at H
                  have c30b0 : decide ((ji27) < (y277.length : Int)) = true := decide_eq_true c30
                  clear c30
                  obtain ⟨y281, hy281⟩ : ∃ y_ : List (S29), y_ = (y277.set ((ji27) : Int).toNat (⟨(rd_T29 y277 (ji27)).f0, Int.tmod (wrap64 ((wrap64 (((rd_T29 t266 (ji27)).f1) + 1)) + ((l0.length : Int) % 999))) 1000⟩ : S29)) := ⟨_, rfl⟩
                  replace H : (if 0 ≤ (wrap64 ((t266.length : Int) / 2)) then (if (wrap64 ((t266.length : Int) / 2)) ≤ (t266.length : Int) then ((impl_PairsDigest.f k (t266.take ((wrap64 ((t266.length : Int) / 2)) : Int).toNat)).bind fun t286 => ((impl_PairsDigest.f k (t266.drop ((wrap64 ((t266.length : Int) / 2)) : Int).toNat)).bind fun t291 => (if (Int.tmod (wrap64 (t286 + t291)) 99991) = t269 then ((impl_PairsDigest.f k y281).bind fun t292 => (if t292 = t269 then (some false) else (if 1 ≤ (t266.length : Int) then ((impl_PairsDigest.f k (t266.take 1)).bind fun t297 => (if 0 < (t266.length : Int) then ((impl_PairDigest.f k ((rd_T29 t266 0).f0) ((rd_T29 t266 0).f1)).bind fun t299 => (some (t297 == t299))) else (none))) else (none)))) else (some false)))) else (none)) else (none)) = some r := by first | (rw [hy281]; with_reducible exact H) | (have H2_ := (Option.bind_some _ _).symm.trans H; rw [hy281]; with_reducible exact H2_) | (have H2_ := (Option.bind_some _ _).symm.trans H; with_reducible exact H2_) | with_reducible exact H | (rw [hy281]; exact H) | exact H
                  have Ny281 := Aside0.mk hy281
                  clear hy281
                  obtain ⟨ji32, hji32⟩ : ∃ j_ : Int, (wrap64 ((t266.length : Int) / 2)) = j_ := ⟨_, rfl⟩
                  replace H : (if 0 ≤ (ji32) then (if (ji32) ≤ (t266.length : Int) then ((impl_PairsDigest.f k (t266.take ((ji32) : Int).toNat)).bind fun t286 => ((impl_PairsDigest.f k (t266.drop ((ji32) : Int).toNat)).bind fun t291 => (if (Int.tmod (wrap64 (t286 + t291)) 99991) = t269 then ((impl_PairsDigest.f k y281).bind fun t292 => (if t292 = t269 then (some false) else (if 1 ≤ (t266.length : Int) then ((impl_PairsDigest.f k (t266.take 1)).bind fun t297 => (if 0 < (t266.length : Int) then ((impl_PairDigest.f k ((rd_T29 t266 0).f0) ((rd_T29 t266 0).f1)).bind fun t299 => (some (t297 == t299))) else (none))) else (none)))) else (some false)))) else (none)) else (none)) = some r := by first | (rw [hji32] at H; exact H) | (simp only [hji32] at H ⊢; exact H)
                  (try rw [hji32] at A3)
                  (try rw [hji32] at A4)
                  (try rw [hji32] at A5)
                  have hji32w : (IntKind.i64.wrap ((t266.length : Int) / 2)) = ji32 := (i64_w _).trans hji32
                  by_cases c33 : 0 ≤ (ji32)
                  · rw [if_pos c33] at H
                    have c33b0 := eq_true c33
                    have c33b1 : decide (0 ≤ (ji32)) = true := decide_eq_true c33
                    clear c33
                    by_cases c34 : (ji32) ≤ (t266.length : Int)
                    · rw [if_pos c34] at H
                      have c34b0 := eq_true c34
                      have c34b1 : decide ((ji32) ≤ (t266.length : Int)) = true := decide_eq_true c34
                      clear c34
                      obtain ⟨y282, hy282⟩ : ∃ y_ : List (S29), y_ = (t266.take ((ji32) : Int).toNat) := ⟨_, rfl⟩
                      replace H : ((impl_PairsDigest.f k y282).bind fun t286 => ((impl_PairsDigest.f k (t266.drop ((ji32) : Int).toNat)).bind fun t291 => (if (Int.tmod (wrap64 (t286 + t291)) 99991) = t269 then ((impl_PairsDigest.f k y281).bind fun t292 => (if t292 = t269 then (some false) else (if 1 ≤ (t266.length : Int) then ((impl_PairsDigest.f k (t266.take 1)).bind fun t297 => (if 0 < (t266.length : Int) then ((impl_PairDigest.f k ((rd_T29 t266 0).f0) ((rd_T29 t266 0).f1)).bind fun t299 => (some (t297 == t299))) else (none))) else (none)))) else (some false)))) = some r := by first | (rw [hy282]; with_reducible exact H) | (have H2_ := (Option.bind_some _ _).symm.trans H; rw [hy282]; with_reducible exact H2_) | (have H2_ := (Option.bind_some _ _).symm.trans H; with_reducible exact H2_) | with_reducible exact H | (rw [hy282]; exact H) | exact H
                      have Ny282 := Aside0.mk hy282
                      clear hy282
                      replace H := Option.bind_eq_some_iff.mp H
                      obtain ⟨t286, A350, H⟩ := H
                      replace H : ((impl_PairsDigest.f k (t266.drop ((ji32) : Int).toNat)).bind fun t291 => (if (Int.tmod (wrap64 (t286 + t291)) 99991) = t269 then ((impl_PairsDigest.f k y281).bind fun t292 => (if t292 = t269 then (some false) else (if 1 ≤ (t266.length : Int) then ((impl_PairsDigest.f k (t266.take 1)).bind fun t297 => (if 0 < (t266.length : Int) then ((impl_PairDigest.f k ((rd_T29 t266 0).f0) ((rd_T29 t266 0).f1)).bind fun t299 => (some (t297 == t299))) else (none))) else (none)))) else (some false))) = some r := H
                      have A35 := Aside0.mk A350
                      clear A350
                      have c36b0 := eq_true (of_decide_eq_true (by first | (with_reducible assumption) | assumption) : 0 ≤ (ji32))
                      have c37b0 := eq_true (of_decide_eq_true (by first | (with_reducible assumption) | assumption) : (ji32) ≤ (t266.length : Int))
                      obtain ⟨y287, hy287⟩ : ∃ y_ : List (S29), y_ = (t266.drop ((ji32) : Int).toNat) := ⟨_, rfl⟩
                      replace H : ((impl_PairsDigest.f k y287).bind fun t291 => (if (Int.tmod (wrap64 (t286 + t291)) 99991) = t269 then ((impl_PairsDigest.f k y281).bind fun t292 => (if t292 = t269 then (some false) else (if 1 ≤ (t266.length : Int) then ((impl_PairsDigest.f k (t266.take 1)).bind fun t297 => (if 0 < (t266.length : Int) then ((impl_PairDigest.f k ((rd_T29 t266 0).f0) ((rd_T29 t266 0).f1)).bind fun t299 => (some (t297 == t299))) else (none))) else (none)))) else (some false))) = some r := by first | (rw [hy287]; with_reducible exact H) | (have H2_ := (Option.bind_some _ _).symm.trans H; rw [hy287]; with_reducible exact H2_) | (have H2_ := (Option.bind_some _ _).symm.trans H; with_reducible exact H2_) | with_reducible exact H | (rw [hy287]; exact H) | exact H
                      have Ny287 := Aside0.mk hy287
                      clear hy287
                      replace H := Option.bind_eq_some_iff.mp H
                      obtain ⟨t291, A380, H⟩ := H
                      replace H : (if (Int.tmod (wrap64 (t286 + t291)) 99991) = t269 then ((impl_PairsDigest.f k y281).bind fun t292 => (if t292 = t269 then (some false) else (if 1 ≤ (t266.length : Int) then ((impl_PairsDigest.f k (t266.take 1)).bind fun t297 => (if 0 < (t266.length : Int) then ((impl_PairDigest.f k ((rd_T29 t266 0).f0) ((rd_T29 t266 0).f1)).bind fun t299 => (some (t297 == t299))) else (none))) else (none)))) else (some false)) = some r := H
                      have A38 := Aside0.mk A380
                      clear A380
                      by_cases c39 : (Int.tmod (wrap64 (t286 + t291)) 99991) = t269
                      · rw [if_pos c39] at H
                        have c39b0 : ((Int.tmod (wrap64 (t286 + t291)) 99991) == t269) = true := beq_iff_eq.mpr c39
                        have c39b1 : ((Int.tmod (wrap64 (t286 + t291)) 99991) != t269) = false := bne_eq_false_iff_eq.mpr c39
                        clear c39
                        replace H := Option.bind_eq_some_iff.mp H
                        obtain ⟨t292, A400, H⟩ := H
                        replace H : (if t292 = t269 then (some false) else (if 1 ≤ (t266.length : Int) then ((impl_PairsDigest.f k (t266.take 1)).bind fun t297 => (if 0 < (t266.length : Int) then ((impl_PairDigest.f k ((rd_T29 t266 0).f0) ((rd_T29 t266 0).f1)).bind fun t299 => (some (t297 == t299))) else (none))) else (none))) = some r := H
                        have A40 := Aside0.mk A400
                        clear A400
                        by_cases c41 : t292 = t269
                        · rw [if_pos c41] at H
                          have c41b0 : (t292 == t269) = true := beq_iff_eq.mpr c41
                          have c41b1 : (t292 != t269) = false := bne_eq_false_iff_eq.mpr c41
                          clear c41
                          obtain rfl := Option.some.inj H
                          exact absurd hrt.out (by simp)
                        · rw [if_neg c41] at H
                          have c41b0 : (t292 == t269) = false := beq_eq_false_iff_ne.mpr c41
                          have c41b1 : (t292 != t269) = true := bne_iff_ne.mpr c41
                          by_cases c42 : 1 ≤ (t266.length : Int)
                          · rw [if_pos c42] at H
                            have c42b0 := eq_true c42
                            have c42b1 : decide (1 ≤ (t266.length : Int)) = true := decide_eq_true c42
                            clear c42
                            obtain ⟨y293, hy293⟩ : ∃ y_ : List (S29), y_ = (t266.take 1) := ⟨_, rfl⟩
                            replace H : ((impl_PairsDigest.f k y293).bind fun t297 => (if 0 < (t266.length : Int) then ((impl_PairDigest.f k ((rd_T29 t266 0).f0) ((rd_T29 t266 0).f1)).bind fun t299 => (some (t297 == t299))) else (none))) = some r := by first | (rw [hy293]; with_reducible exact H) | (have H2_ := (Option.bind_some _ _).symm.trans H; rw [hy293]; with_reducible exact H2_) | (have H2_ := (Option.bind_some _ _).symm.trans H; with_reducible exact H2_) | with_reducible exact H | (rw [hy293]; exact H) | exact H
                            have Ny293 := Aside0.mk hy293
                            clear hy293
                            replace H := Option.bind_eq_some_iff.mp H
                            obtain ⟨t297, A430, H⟩ := H
                            replace H : (if 0 < (t266.length : Int) then ((impl_PairDigest.f k ((rd_T29 t266 0).f0) ((rd_T29 t266 0).f1)).bind fun t299 => (some (t297 == t299))) else (none)) = some r := H
                            have A43 := Aside0.mk A430
                            clear A430
                            by_cases c44 : 0 < (t266.length : Int)
                            · rw [if_pos c44] at H
                              have c44b0 : decide (0 < (t266.length : Int)) = true := decide_eq_true c44
                              have c44b1 : decide (0 < t266.length) = true := decide_eq_true (by omega)
                              clear c44
                              replace H := Option.bind_eq_some_iff.mp H
                              obtain ⟨t299, A450, H⟩ := H
                              replace H : (some (t297 == t299)) = some r := H
                              have A45 := Aside0.mk A450
                              clear A450
                              obtain rfl := Option.some.inj H
                              go_enter Try.func3, Try.ntmps3
                              try go_wp2_with (first | ((with_reducible refine gate_callee (f := 14) rfl ?_); refine gsl (some 12) rfl Try.func14 #[.slice A0 l0.length c0] rfl ?_; (with_reducible refine (spec_DrawPairsDigest.calls k _ _ l0 t266 _ ?side1 ?side2 A3.out).mono ?_); (case side1 => exact cc HR0.out); (case side2 => exact HC0.out); rintro e w46 ⟨v267, rfl, ho0, hb⟩; refine ⟨_, rfl, ?_⟩; have n0_ := Aside0.mk (Kd.R_lower ho0 (below_size (bp HB.out))); have n1_ := an0 HB hb; clear HB; have HO268 := n0_; have HB := n1_; clear n0_ n1_; (try clear hb); (try clear hb2); (try clear hk); (try clear hi); (try clear ho0); obtain ⟨Ao47, co47, eo47⟩ := Kd.R_slice HO268.out; subst eo47) | ((with_reducible refine gate_callee (f := 15) rfl ?_); refine gsl (some 14) rfl Try.func15 #[.slice Ao47 t266.length co47] rfl ?_; (with_reducible refine (impl_PairsDigest.calls k _ _ t266 t269 _ ?side1 ?side2 A4.out).mono ?_); (case side1 => exact laws_FnPairsDigest.s0 HO268.out); (case side2 => exact (Kd.R_reads' HO268.out).2.1); rintro e w48 ⟨rfl, hb⟩; refine ⟨_, rfl, ?_⟩; have n0_ := Aside0.mk (Kd.R_below (kr HO268.out) hb); have n1_ := an0 HB hb; clear HO268; clear HB; have HO268 := n0_; have HB := n1_; clear n0_ n1_; (try clear hb); (try clear hb2); (try clear hk); (try clear hi)) | ((with_reducible refine gate_callee (f := 16) rfl ?_); refine gsl (some 17) rfl Try.func16 #[.slice Ao47 t266.length co47] rfl ?_; (with_reducible refine (spec_PairsDigest.calls k _ _ t266 t270 _ ?side1 ?side2 A5.out).mono ?_); (case side1 => exact laws_FnPairsDigest.s0 HO268.out); (case side2 => exact (Kd.R_reads' HO268.out).2.1); rintro e w49 ⟨rfl, hb⟩; refine ⟨_, rfl, ?_⟩; have n0_ := Aside0.mk (Kd.R_below (kr HO268.out) hb); have n1_ := an0 HB hb; clear HO268; clear HB; have HO268 := n0_; have HB := n1_; clear n0_ n1_; (try clear hb); (try clear hb2); (try clear hk); (try clear hi)) | ((with_reducible refine gate_dst (N := 47) rfl ?_); refine Kd.R_lit k29 _ 29 ?hg (N := 47) ?hd (xs := ([] : List (S29))) (inner := []) (ok := fun _ => True) (okp := fun _ => True) ?hr ?hp (fun _ hk => hk) trivial (Below.refl _ _) (Nat.le_refl _) (by simp) ?_; (case hd => rfl); (case hg => rfl); (case hr => first | (go_simp; done) | (go_simp; rfl)); (case hp => exact (Reps.none _ _)); intro v275 w50 ho51 hb hg_ hnew_; clear hg_ hnew_; (first | rw [← Ny274.out] at ho51 | (simp only [Int.reduceToNat] at ho51; rw [← Ny274.out] at ho51)); have n0_ := Aside0.mk (Kd.R_elder' (kr HO268.out) (Kd.R_base ho51) hb); have n1_ := Aside0.mk (Kd.R_lower (Kd.R_new' ho51 (Kd.R_lt (kr HO268.out))) (below_size (bp HB.out))); have n2_ := an0 HB hb; clear HO268; clear HB; have HO268 := n0_; have HO276 := n1_; have HB := n2_; clear n0_ n1_ n2_; clear hb ho51) | ((with_reducible refine gate_builtin (b := .append) (xs := #[.tmp 47, .tmp 48]) rfl ?_); at_builtin; refine Kd.R_append_rows k29 (w0 := w) w.heap.size rfl (.tmp 47) (.tmp 48) 23 29 (.agg #[(.string ⟨#[]⟩), (.int .i64 0)]) 24 rfl Try.underlying23 info29 rfl (by decide) (by omega) v275 y274 t266 _ _ _ (fun k_ => some k_ ≠ (.slice Ao47 t266.length co47 : Value).ownBlock) (fun _ => False) rfl rfl ?aO ?aR (fun _ _ h => h) (fun _ h => h.elim) ?aF ?aB ?aS ?aL ?_; (case aR => exact laws_FnPairsDigest.s0 HO268.out); (case aB => exact (bp HB.out)); (case aF => exact (fun k_ hk => Kd.fresh' (Kd.R_lt (kr HO268.out)) k_ hk)); (case aO => exact (by (with_reducible repeat (first | apply Kd.R_alloc | apply Kd.R_drewN | apply Kd.R_drew)); exact Kd.R_mono HO276.out (fun _ hk => hk.2))); (case aS => exact (below_size (bp HB.out))); (case aL => have := LMc26.out; omega); intro v278 w52 ho hb hg hat; rw [← Ny277.out] at ho; have n0_ := Aside0.mk (Kd.R_after (ok := (fun _ => True)) (kr HO268.out) hg hat); have n1_ := Aside0.mk (hb); have n2_ := Aside0.mk (ho); clear HO268; clear HB; clear HO276; have HO268 := n0_; have HB := n1_; have HO279 := n2_; clear n0_ n1_ n2_; clear ho hb hg hat; have p280 : 0 ≤ ((ji27) : Int) := of_decide_eq_true (by first | (with_reducible assumption) | assumption); have q280 : (ji27) < (t266.length : Int) := of_decide_eq_true (by first | (with_reducible assumption) | assumption); obtain ⟨ad280, e280, hx280_0, hx280_1⟩ := at_T29 (Kd.R_reads' HO268.out).2.2 (ji27) p280 q280; cases e280; replace p280 := eq_true p280; replace q280 := eq_true q280; have p31 : 0 ≤ ((ji27) : Int) := of_decide_eq_true (by first | (with_reducible assumption) | assumption); have q31 : ((ji27) : Int) < ((y277.length : Int) : Int) := of_decide_eq_true (by first | (with_reducible assumption) | assumption); obtain ⟨go31, co31, eo31, gb31, gl31, cl31, HG31⟩ := Kd.R_form HO279.out (by omega); (first | cases eo31 | (injection eo31 with ea_ en_ ec_; (first | subst ea_ | (injection ea_ with ea_; subst ea_)); subst ec_; clear en_)); have GB31 := Aside0.mk gb31; have GG31 := Aside0.mk HG31; clear gb31 gl31 HG31; obtain ⟨ce31, hcl31, hM31, hcc31, hfr31⟩ := Kd.R_elem HO279.out z29 ((ji27) : Int) p31 q31; obtain rfl := k29_openM hM31; have hx31_0 : w52.cell? ⟨go31, ((ji27) : Int).toNat * 2, none⟩ = some (.string ((rd_T29 y277 (ji27)).f0)) := hcc31 0 _ rfl; have hx31_1 : w52.cell? ⟨go31, ((ji27) : Int).toNat * 2 + 1, none⟩ = some (.int .i64 ((rd_T29 y277 (ji27)).f1)) := hcc31 1 _ rfl; have hf31_0 : w52.frozen? ⟨go31, ((ji27) : Int).toNat * 2, none⟩ = false := hfr31 0; have hf31_1 : w52.frozen? ⟨go31, ((ji27) : Int).toNat * 2 + 1, none⟩ = false := hfr31 1; clear hcl31 hcc31 hfr31 hM31; replace p31 := eq_true p31; replace q31 := eq_true q31; have HX53 := Aside0.mk (show Kd.R k29 29 w52 w.heap.size (fun k_ => some k_ ≠ (.slice (some ad280) t266.length co47 : Value).ownBlock) (.slice (some ⟨go31, 0, none⟩) y277.length co31) y277 from (kr HO279.out)); obtain ⟨ce53, hcl53, hM53, hcc53, hfr53⟩ := Kd.R_elem HX53.out z29 ((ji27) : Int) (of_decide_eq_true (by first | (with_reducible assumption) | assumption)) (by have h_ : ((ji27) : Int) < ((y277.length : Int) : Int) := of_decide_eq_true (by first | (with_reducible assumption) | assumption); first | exact h_ | (have e_ := (Kd.R_reads' HO279.out).1; omega) | simpa using h_); obtain rfl := k29_openM hM53; have HP53 := Kd.R_seg HX53.out ((ji27) : Int) (of_decide_eq_true (by first | (with_reducible assumption) | assumption)) (by have h_ : ((ji27) : Int) < ((y277.length : Int) : Int) := of_decide_eq_true (by first | (with_reducible assumption) | assumption); first | exact h_ | (have e_ := (Kd.R_reads' HO279.out).1; omega) | simpa using h_) (seg := [.int .i64 (Int.tmod (wrap64 ((wrap64 (((rd_T29 t266 (ji27)).f1) + 1)) + ((l0.length : Int) % 999))) 1000)]) (j := 1) hcl53 hcc53 (show 2 ≤ 2 from by decide) (x' := (⟨(rd_T29 y277 (ji27)).f0, Int.tmod (wrap64 ((wrap64 (((rd_T29 t266 (ji27)).f1) + 1)) + ((l0.length : Int) % 999))) 1000⟩ : S29)) (k29_mkM _ _ _ (⟨(rd_T29 y277 (ji27)).f0, Int.tmod (wrap64 ((wrap64 (((rd_T29 t266 (ji27)).f1) + 1)) + ((l0.length : Int) % 999))) 1000⟩ : S29) ) (fun _ hk => hk); have hx53_1 := hcc53 1 _ rfl; (try simp only [show (k29).sz = 2 from rfl, Nat.mul_one, Nat.add_zero] at hx53_1); have hf53_1 := hfr53 1; (try simp only [show (k29).sz = 2 from rfl, Nat.mul_one, Nat.add_zero] at hf53_1); clear hcl53 hcc53 hfr53 hM53) | ((with_reducible refine gate_store (t := 3) (p := 64) rfl ?_); refine store_event (t := 3) (p := 64) (v := ?vo_w54) (w1 := (w52.setCell ⟨go31, ((ji27) : Int).toNat * 2 + 1, none⟩ (.int .i64 (Int.tmod (wrap64 ((wrap64 (((rd_T29 t266 (ji27)).f1) + 1)) + ((l0.length : Int) % 999))) 1000)))) ?hg ?ho ?hn ?hr ?_; (case ho => rfl); (case hg => rfl); (case hn => rfl); (case hr => first | (go_simp; done) | (go_simp; rfl)); intro w54 hw; have hg : w52.grownBy w54 (some go31) := (by rw [hw]; exact HP53.2); have hp_ : Kd.R k29 29 w54 w.heap.size (fun k_ => some k_ ≠ (.slice (some ad280) t266.length co47 : Value).ownBlock) (.slice (some ⟨go31, 0, none⟩) y277.length co31) y281 := (by rw [hw, Ny281.out]; exact HP53.1); clear HP53; have n0_ := Aside0.mk (Kd.R_after (v := (.slice (some ⟨go31, 0, none⟩) y277.length co31)) (v1 := (.slice (some ⟨go31, 0, none⟩) y277.length co31)) (ok := (fun _ => True)) (kr HO268.out) hg (.inl rfl)); have n1_ := Aside0.mk (hp_); have n2_ := Aside0.mk ((by rw [hw]; exact below_set (HB.out) GB31.out : Below w.heap.size w w54)); clear HO268; clear HO279; clear HB; have HO268 := n0_; have HO279 := n1_; have HB := n2_; clear n0_ n1_ n2_; clear hg hw hp_))
                              have n0_ := Aside0.mk (Kd.R_drew HO268.out)
                              have n1_ := Aside0.mk (Kd.R_drew HO279.out)
                              have n2_ := Aside0.mk (below_drew1 HB.out)
                              clear HO268
                              clear HO279
                              clear HB
                              have HO268 := n0_
                              have HO279 := n1_
                              have HB := n2_
                              clear n0_ n1_ n2_
                              have q56 : ((ji32) : Int) ≤ ((t266.length : Int) : Int) := of_decide_eq_true (by first | (with_reducible assumption) | assumption)
                              obtain ⟨i056, hi056, _, hsz56, _⟩ := info_parts info29
                              have hroom56 : t266.length ≤ co47 := (Kd.R_reads' HO268.out).2.1
                              have hC56 : Kd.C k29 _ (some ad280) t266.length t266 := (Kd.R_reads' HO268.out).2.2
                              have hcut56 := cut_to (P := Try.prog) 23 29 .i64 Try.underlying23 hi056 (some ad280) t266.length co47 (ji32) (of_decide_eq_true (by first | (with_reducible assumption) | assumption)) q56 hroom56
                              have hr56 := Kd.C_take (m := ((ji32) : Int).toNat) hC56 (by omega)
                              have hy56 : y282.length = ((ji32) : Int).toNat := (by rw [Ny282.out, List.length_take]; omega)
                              rw [← Ny282.out] at hr56
                              rw [← hy56] at hcut56
                              have HR285 := Aside0.mk hr56
                              have HC285 := Aside0.mk (show y282.length ≤ co47 from by omega)
                              clear hr56 hC56 hroom56 hi056 hsz56
                              have KY56 := Aside0.mk hy56
                              clear hy56
                              have KL56 := Aside0.mk (show ((ji32) : Int).toNat ≤ t266.length from by omega)
                              replace q56 := eq_true q56
                              have q57 : ((ji32) : Int) ≤ ((t266.length : Int) : Int) := of_decide_eq_true (by first | (with_reducible assumption) | assumption)
                              obtain ⟨i057, hi057, _, hsz57, _⟩ := info_parts info29
                              have hroom57 : t266.length ≤ co47 := (Kd.R_reads' HO268.out).2.1
                              have hC57 : Kd.C k29 _ (some ad280) t266.length t266 := (Kd.R_reads' HO268.out).2.2
                              have q057 : (0 : Int) ≤ ((ji32) : Int) := of_decide_eq_true (by first | (with_reducible assumption) | assumption)
                              have hcut57 := cut_from (P := Try.prog) 23 29 .i64 Try.underlying23 hi057 2 hsz57 (some ad280) t266.length co47 (ji32) q057 q57
                              have hr57 := Kd.C_drop (m := ((ji32) : Int).toNat) (c := co47) hC57 (by omega) hroom57
                              obtain ⟨A57, hA57⟩ : ∃ A_, A_ = (if co47 = ((ji32) : Int).toNat then (some ad280) else ((some ad280) : Option Addr).map (·.add (((ji32) : Int).toNat * 2))) := ⟨_, rfl⟩
                              obtain ⟨c57, hc57⟩ : ∃ c_, c_ = co47 - ((ji32) : Int).toNat := ⟨_, rfl⟩
                              have hy57 : y287.length = t266.length - ((ji32) : Int).toNat := (by rw [Ny287.out, List.length_drop] <;> omega)
                              rw [show (t266).drop ((ji32) : Int).toNat = y287 from Ny287.out.symm] at hr57
                              replace hr57 : Kd.C k29 _ A57 y287.length y287 := (by rw [hA57]; exact hr57)
                              rw [← hy57, ← hA57, ← hc57] at hcut57
                              have HR290 := Aside0.mk hr57
                              have HC290 := Aside0.mk (show y287.length ≤ c57 from by rw [hy57, hc57]; exact Nat.sub_le_sub_right hroom57 _)
                              clear hr57 hC57 hroom57 hi057 hsz57 hc57
                              have KY57 := Aside0.mk hy57
                              have KA57 := Aside0.mk hA57
                              clear hy57 hA57
                              have KL57 := Aside0.mk (show ((ji32) : Int).toNat ≤ t266.length from by omega)
                              replace q57 := eq_true q57
                              have p298 : 0 ≤ (0 : Int) := (by omega)
                              have q298 : 0 < (t266.length : Int) := of_decide_eq_true (by first | (with_reducible assumption) | assumption)
                              obtain ⟨ad298, e298, hx298_0, hx298_1⟩ := at_T29 (Kd.R_reads' HO268.out).2.2 0 p298 q298
                              obtain rfl : ad280 = ad298 := (by injection e298)
                              have qi298 : (0 < t266.length) = True := eq_true (by omega)
                              (try rw [show ((0 : Int)).toNat = 0 from rfl] at hx298_0)
                              (try rw [show 0 * 2 = 0 from rfl] at hx298_0)
                              (try rw [Addr.add_zero'] at hx298_0)
                              (try rw [show ((0 : Int)).toNat = 0 from rfl] at hx298_1)
                              (try rw [show 0 * 2 = 0 from rfl] at hx298_1)
                              (try rw [Addr.add_zero'] at hx298_1)
                              replace p298 := eq_true p298
                              replace q298 := eq_true q298
                              refine start_ (n := 29) (S := fun w' => w'.cell? ad280 = some (.string ((rd_T29 t266 0).f0)) ∧ w'.cell? ⟨ad280.block, ad280.off + 1, none⟩ = some (.int .i64 ((rd_T29 t266 0).f1))) (ds := []) laws_FnPairsDigest.m0 (by kernel_rfl) rfl rfl ⟨hx298_0, hx298_1⟩ (fun hHeld => ?_); refine with_tabW laws_FnPairsDigest.tab15 laws_FnPairsDigest.bits15 (fun HT_ HW_ => ?_)
                              generalize w54.drew = w55 at HO268 HO279 HB HR285 HR290 hx298_0 hx298_1 hHeld ⊢
                              refine pur (i := 0) (N := some 65) laws_FnPairsDigest.m1 rfl rfl HT_.out ?_
                              refine pur (i := 1) (N := some 66) laws_FnPairsDigest.m2 rfl rfl HT_.out ?_
                              refine pur (i := 2) (N := some 67) laws_FnPairsDigest.m3 rfl rfl HT_.out ?_
                              refine pur (i := 4) (N := some 69) laws_FnPairsDigest.m4 rfl rfl HT_.out ?_
                              refine pur (i := 5) (N := some 70) laws_FnPairsDigest.m5 rfl rfl HT_.out ?_
                              refine pur (i := 6) (N := some 71) laws_FnPairsDigest.m6 rfl rfl HT_.out ?_
                              refine pur (i := 10) (N := some 75) laws_FnPairsDigest.m7 rfl rfl HT_.out ?_
                              refine one_ (i := 3) (N := some 68) laws_FnPairsDigest.m8 rfl rfl (one_of HT_.out (by kernel_rfl)) (by decide) (fun K hK => ?_)
                              refine goes_ Try.func15 (by kernel_rfl) rfl #[.slice (some ad280) y282.length co47] (by rfl) rfl rfl (by (try simp only [List.map_toArray, List.map_cons, List.map_nil]); first | done | rfl | (simp only [List.length_drop, List.length_take]; rfl)) ?_
                              with_reducible refine (impl_PairsDigest.calls k _ _ y282 t286 _ ?side1 ?side2 A35.out).mono ?_
                              (case side1 => repeat (first | exact (laws_FnPairsDigest.s1 HR285.out) | (with_reducible refine Kd.C_alloc ?_ _) | (with_reducible refine Kd.C_drewN ?_ _) | (with_reducible refine Kd.C_drew ?_)))
                              (case side2 => exact HC285.out)
                              rintro e w58 ⟨rfl, hb⟩
                              have HS0_ := (hb.cell (World.block_lt_of_cell? _ _ (hHeld.1))).trans (hHeld.1)
                              have HS1_ := (hb.cell (World.block_lt_of_cell? _ _ (hHeld.2))).trans (hHeld.2)
                              refine ⟨_, rfl, ?_⟩
                              have n0_ := Aside0.mk (Kd.R_below (kr HO268.out) hb)
                              have n1_ := Aside0.mk (Kd.R_below (kr HO279.out) hb)
                              have n2_ := Aside0.mk (Kd.C_below (laws_FnPairsDigest.s1 HR285.out) hb)
                              have n3_ := Aside0.mk (Kd.C_below (laws_FnPairsDigest.s1 HR290.out) hb)
                              have n4_ := an0 HB hb
                              clear HO268
                              clear HO279
                              clear HR285
                              clear HR290
                              clear HB
                              have HO268 := n0_
                              have HO279 := n1_
                              have HR285 := n2_
                              have HR290 := n3_
                              have HB := n4_
                              clear n0_ n1_ n2_ n3_ n4_
                              (try clear hb)
                              (try clear hb2)
                              (try clear hk)
                              (try clear hi)
                              refine hK.out _ _ ⟨HS0_, HS1_⟩ (fun hHeld => ?_)
                              clear hK K
                              refine norm_ (a' := ?_) ?_ ?_
                              rotate_left
                              · show Act.put _ (some 68) _ = _
                                simp only [Act.put, List.setIfInBounds_toArray, List.set_cons_zero, List.set_cons_succ, i64_w, i32_w]
                                rfl
                              refine one_ (i := 7) (N := some 72) laws_FnPairsDigest.m9 rfl rfl (one_of HT_.out (by kernel_rfl)) (by decide) (fun K hK => ?_)
                              refine goes_ Try.func15 (by kernel_rfl) rfl #[.slice A57 y287.length c57] (by rfl) rfl rfl (by (try simp only [List.map_toArray, List.map_cons, List.map_nil]); first | done | rfl | (simp only [List.length_drop, List.length_take]; rfl)) ?_
                              with_reducible refine (impl_PairsDigest.calls k _ _ y287 t291 _ ?side1 ?side2 A38.out).mono ?_
                              (case side1 => repeat (first | exact (laws_FnPairsDigest.s1 HR290.out) | (with_reducible refine Kd.C_alloc ?_ _) | (with_reducible refine Kd.C_drewN ?_ _) | (with_reducible refine Kd.C_drew ?_)))
                              (case side2 => exact HC290.out)
                              rintro e w59 ⟨rfl, hb⟩
                              have HS0_ := (hb.cell (World.block_lt_of_cell? _ _ (hHeld.1))).trans (hHeld.1)
                              have HS1_ := (hb.cell (World.block_lt_of_cell? _ _ (hHeld.2))).trans (hHeld.2)
                              refine ⟨_, rfl, ?_⟩
                              have n0_ := Aside0.mk (Kd.R_below (kr HO268.out) hb)
                              have n1_ := Aside0.mk (Kd.R_below (kr HO279.out) hb)
                              have n2_ := Aside0.mk (Kd.C_below (laws_FnPairsDigest.s1 HR285.out) hb)
                              have n3_ := Aside0.mk (Kd.C_below (laws_FnPairsDigest.s1 HR290.out) hb)
                              have n4_ := an0 HB hb
                              clear HO268
                              clear HO279
                              clear HR285
                              clear HR290
                              clear HB
                              have HO268 := n0_
                              have HO279 := n1_
                              have HR285 := n2_
                              have HR290 := n3_
                              have HB := n4_
                              clear n0_ n1_ n2_ n3_ n4_
                              (try clear hb)
                              (try clear hb2)
                              (try clear hk)
                              (try clear hi)
                              refine hK.out _ _ ⟨HS0_, HS1_⟩ (fun hHeld => ?_)
                              clear hK K
                              refine norm_ (a' := ?_) ?_ ?_
                              rotate_left
                              · show Act.put _ (some 72) _ = _
                                simp only [Act.put, List.setIfInBounds_toArray, List.set_cons_zero, List.set_cons_succ, i64_w, i32_w]
                                rfl
                              refine pur (i := 8) (N := some 73) laws_FnPairsDigest.m10 rfl rfl HT_.out ?_
                              refine pur (i := 9) (N := some 74) laws_FnPairsDigest.m11 rfl rfl HT_.out ?_
                              refine pur (i := 11) (N := some 76) laws_FnPairsDigest.m12 rfl rfl HT_.out ?_
                              refine pur (i := 12) (N := some 77) laws_FnPairsDigest.m13 rfl rfl HT_.out ?_
                              refine pur (i := 13) (N := some 78) laws_FnPairsDigest.m14 rfl rfl HT_.out ?_
                              refine pur (i := 15) (N := some 80) laws_FnPairsDigest.m15 rfl rfl HT_.out ?_
                              refine one_ (i := 14) (N := some 79) laws_FnPairsDigest.m16 rfl rfl (one_of HT_.out (by kernel_rfl)) (by decide) (fun K hK => ?_)
                              refine goes_ Try.func15 (by kernel_rfl) rfl #[.slice (some ⟨go31, 0, none⟩) y281.length co31] (by rfl) rfl rfl (by (try simp only [List.map_toArray, List.map_cons, List.map_nil]); first | done | (rw [show y281.length = y277.length from (Kd.R_reads' HO279.out).1.symm] <;> rfl) | rfl | (simp only [List.length_drop, List.length_take]; rfl)) ?_
                              with_reducible refine (impl_PairsDigest.calls k _ _ y281 t292 _ ?side1 ?side2 A40.out).mono ?_
                              (case side1 => exact laws_FnPairsDigest.s0 HO279.out)
                              (case side2 => rw [show y281.length = y277.length from (Kd.R_reads' HO279.out).1.symm]; exact (Kd.R_reads' HO279.out).2.1)
                              rintro e w60 ⟨rfl, hb⟩
                              have HS0_ := (hb.cell (World.block_lt_of_cell? _ _ (hHeld.1))).trans (hHeld.1)
                              have HS1_ := (hb.cell (World.block_lt_of_cell? _ _ (hHeld.2))).trans (hHeld.2)
                              refine ⟨_, rfl, ?_⟩
                              have n0_ := Aside0.mk (Kd.R_below (kr HO268.out) hb)
                              have n1_ := Aside0.mk (Kd.R_below (kr HO279.out) hb)
                              have n2_ := Aside0.mk (Kd.C_below (laws_FnPairsDigest.s1 HR285.out) hb)
                              have n3_ := Aside0.mk (Kd.C_below (laws_FnPairsDigest.s1 HR290.out) hb)
                              have n4_ := an0 HB hb
                              clear HO268
                              clear HO279
                              clear HR285
                              clear HR290
                              clear HB
                              have HO268 := n0_
                              have HO279 := n1_
                              have HR285 := n2_
                              have HR290 := n3_
                              have HB := n4_
                              clear n0_ n1_ n2_ n3_ n4_
                              (try clear hb)
                              (try clear hb2)
                              (try clear hk)
                              (try clear hi)
                              have q61 : (1 : Int) ≤ ((t266.length : Int) : Int) := of_decide_eq_true (by first | (with_reducible assumption) | assumption)
                              obtain ⟨i061, hi061, _, hsz61, _⟩ := info_parts info29
                              have hroom61 : t266.length ≤ co47 := (Kd.R_reads' HO268.out).2.1
                              have hC61 : Kd.C k29 _ (some ad280) t266.length t266 := (Kd.R_reads' HO268.out).2.2
                              have hcut61 := cut_to (P := Try.prog) 23 29 .i64 Try.underlying23 hi061 (some ad280) t266.length co47 1 (by omega) q61 hroom61
                              have hr61 := Kd.C_take (m := 1) hC61 (by omega)
                              have hy61 : y293.length = (1 : Int).toNat := (by rw [Ny293.out, List.length_take]; omega)
                              rw [← Ny293.out] at hr61
                              rw [← hy61] at hcut61
                              have HR296 := Aside0.mk hr61
                              have HC296 := Aside0.mk (show y293.length ≤ co47 from by omega)
                              clear hr61 hC61 hroom61 hi061 hsz61
                              have KY61 := Aside0.mk hy61
                              clear hy61
                              have KL61 := Aside0.mk (show 1 ≤ t266.length from by omega)
                              replace q61 := eq_true q61
                              refine hK.out _ _ ⟨HS0_, HS1_⟩ (fun hHeld => ?_)
                              clear hK K
                              refine norm_ (a' := ?_) ?_ ?_
                              rotate_left
                              · show Act.put _ (some 79) _ = _
                                simp only [Act.put, List.setIfInBounds_toArray, List.set_cons_zero, List.set_cons_succ, i64_w, i32_w]
                                rfl
                              refine pur (i := 16) (N := some 81) laws_FnPairsDigest.m17 rfl rfl HT_.out ?_
                              refine pur (i := 17) (N := some 82) laws_FnPairsDigest.m18 rfl rfl HT_.out ?_
                              refine pur (i := 18) (N := some 83) laws_FnPairsDigest.m19 rfl rfl HT_.out ?_
                              refine pur (i := 19) (N := some 84) laws_FnPairsDigest.m20 rfl rfl HT_.out ?_
                              refine pur (i := 20) (N := some 85) laws_FnPairsDigest.m21 rfl rfl HT_.out ?_
                              refine pur (i := 22) (N := some 87) laws_FnPairsDigest.m22 rfl rfl HT_.out ?_
                              refine pur (i := 23) (N := some 88) laws_FnPairsDigest.m23 rfl rfl HT_.out ?_
                              refine take_ (i := 24) (N := some 89) (v := ?_) (a' := ?_) laws_FnPairsDigest.m24 rfl rfl (take_ofW HT_.out HW_.out (by kernel_rfl)) (fun _ _ _ h => h) (Or.inl ⟨by rfl, ?_⟩) hHeld ?_ ?_
                              rotate_left
                              · rintro w' ⟨s0, s1⟩
                                go_simp
                                with_reducible rfl
                              rotate_left; focus (simp only [Act.put, List.setIfInBounds_toArray, List.set_cons_zero, List.set_cons_succ, i64_w, i32_w]; rfl)
                              refine one_ (i := 21) (N := some 86) laws_FnPairsDigest.m25 rfl rfl (one_of HT_.out (by kernel_rfl)) (by decide) (fun K hK => ?_)
                              refine goes_ Try.func15 (by kernel_rfl) rfl #[.slice (some ad280) y293.length co47] (by rfl) rfl rfl (by (try simp only [List.map_toArray, List.map_cons, List.map_nil]); first | done | rfl | (simp only [List.length_drop, List.length_take]; rfl)) ?_
                              with_reducible refine (impl_PairsDigest.calls k _ _ y293 t297 _ ?side1 ?side2 A43.out).mono ?_
                              (case side1 => repeat (first | exact (laws_FnPairsDigest.s1 HR296.out) | (with_reducible refine Kd.C_alloc ?_ _) | (with_reducible refine Kd.C_drewN ?_ _) | (with_reducible refine Kd.C_drew ?_)))
                              (case side2 => exact HC296.out)
                              rintro e w62 ⟨rfl, hb⟩
                              have HS0_ := (hb.cell (World.block_lt_of_cell? _ _ (hHeld.1))).trans (hHeld.1)
                              have HS1_ := (hb.cell (World.block_lt_of_cell? _ _ (hHeld.2))).trans (hHeld.2)
                              refine ⟨_, rfl, ?_⟩
                              have n0_ := Aside0.mk (Kd.R_below (kr HO268.out) hb)
                              have n1_ := Aside0.mk (Kd.R_below (kr HO279.out) hb)
                              have n2_ := Aside0.mk (Kd.C_below (laws_FnPairsDigest.s1 HR285.out) hb)
                              have n3_ := Aside0.mk (Kd.C_below (laws_FnPairsDigest.s1 HR290.out) hb)
                              have n4_ := Aside0.mk (Kd.C_below (laws_FnPairsDigest.s1 HR296.out) hb)
                              have n5_ := an0 HB hb
                              clear HO268
                              clear HO279
                              clear HR285
                              clear HR290
                              clear HR296
                              clear HB
                              have HO268 := n0_
                              have HO279 := n1_
                              have HR285 := n2_
                              have HR290 := n3_
                              have HR296 := n4_
                              have HB := n5_
                              clear n0_ n1_ n2_ n3_ n4_ n5_
                              (try clear hb)
                              (try clear hb2)
                              (try clear hk)
                              (try clear hi)
                              refine hK.out _ _ ⟨HS0_, HS1_⟩ (fun hHeld => ?_)
                              clear hK K
                              refine norm_ (a' := ?_) ?_ ?_
                              rotate_left
                              · show Act.put _ (some 86) _ = _
                                simp only [Act.put, List.setIfInBounds_toArray, List.set_cons_zero, List.set_cons_succ, i64_w, i32_w]
                                rfl
                              refine one_ (i := 25) (N := some 90) laws_FnPairsDigest.m26 rfl rfl (one_of HT_.out (by kernel_rfl)) (by decide) (fun K hK => ?_)
                              refine goes_ Try.func19 (by kernel_rfl) rfl #[.agg #[.string ((rd_T29 t266 0).f0), .int .i64 ((rd_T29 t266 0).f1)]] (by rfl) rfl rfl (by (try simp only [List.map_toArray, List.map_cons, List.map_nil]); first | done | rfl | (simp only [List.length_drop, List.length_take]; rfl)) ?_
                              with_reducible refine (impl_PairDigest.calls k ((rd_T29 t266 0).f0) ((rd_T29 t266 0).f1) t299 _ A45.out).mono ?_
                              rintro e w63 ⟨rfl, hb⟩
                              have HS0_ := (hb.cell (World.block_lt_of_cell? _ _ (hHeld.1))).trans (hHeld.1)
                              have HS1_ := (hb.cell (World.block_lt_of_cell? _ _ (hHeld.2))).trans (hHeld.2)
                              refine ⟨_, rfl, ?_⟩
                              have n0_ := Aside0.mk (Kd.R_below (kr HO268.out) hb)
                              have n1_ := Aside0.mk (Kd.R_below (kr HO279.out) hb)
                              have n2_ := Aside0.mk (Kd.C_below (laws_FnPairsDigest.s1 HR285.out) hb)
                              have n3_ := Aside0.mk (Kd.C_below (laws_FnPairsDigest.s1 HR290.out) hb)
                              have n4_ := Aside0.mk (Kd.C_below (laws_FnPairsDigest.s1 HR296.out) hb)
                              have n5_ := an0 HB hb
                              clear HO268
                              clear HO279
                              clear HR285
                              clear HR290
                              clear HR296
                              clear HB
                              have HO268 := n0_
                              have HO279 := n1_
                              have HR285 := n2_
                              have HR290 := n3_
                              have HR296 := n4_
                              have HB := n5_
                              clear n0_ n1_ n2_ n3_ n4_ n5_
                              (try clear hb)
                              (try clear hb2)
                              (try clear hk)
                              (try clear hi)
                              refine hK.out _ _ ⟨HS0_, HS1_⟩ (fun hHeld => ?_)
                              clear hK K
                              refine norm_ (a' := ?_) ?_ ?_
                              rotate_left
                              · show Act.put _ (some 90) _ = _
                                simp only [Act.put, List.setIfInBounds_toArray, List.set_cons_zero, List.set_cons_succ, i64_w, i32_w]
                                rfl
                              refine pur (i := 26) (N := some 91) laws_FnPairsDigest.m27 rfl rfl HT_.out ?_
                              refine pur (i := 27) (N := some 92) laws_FnPairsDigest.m28 rfl rfl HT_.out ?_
                              refine pur (i := 28) (N := some 2) laws_FnPairsDigest.m29 rfl rfl HT_.out ?_
                              refine done_ (done_of HT_.out (by kernel_rfl)) ?_
                              try go_wp2
                              go_ret
                              exact ⟨by first | rfl | (simp [errW_none, errW_some] <;> rfl) | (simp only [← hji27, ← hji32]; first | rfl | (simp [errW_none, errW_some] <;> rfl)) | (simp [*, errW_none, errW_some] <;> rfl) | (simp only [IntKind.wrap_u8, show ∀ n_ : Int, wrap64 (n_ % 256) = n_ % 256 from fun n_ => by unfold wrap64; omega]; rfl), bp HB.out⟩
                            · rw [if_neg c44] at H
                              exact absurd H (by simp)
                          · rw [if_neg c42] at H
                            exact absurd H (by simp)
                      · rw [if_neg c39] at H
                        have c39b0 : ((Int.tmod (wrap64 (t286 + t291)) 99991) == t269) = false := beq_eq_false_iff_ne.mpr c39
                        have c39b1 : ((Int.tmod (wrap64 (t286 + t291)) 99991) != t269) = true := bne_iff_ne.mpr c39
                        obtain rfl := Option.some.inj H
                        exact absurd hrt.out (by simp)
                    · rw [if_neg c34] at H
                      exact absurd H (by simp)
                  · rw [if_neg c33] at H
                    exact absurd H (by simp)
                · rw [if_neg c30] at H
                  exact absurd H (by simp)
              · rw [if_neg c29] at H
                exact absurd H (by simp)
            · rw [if_neg c28] at H
              exact absurd H (by simp)
          · rw [if_neg c26] at H
            exact absurd H (by simp)
    · rw [if_neg c6] at H
      have c6b0 : (t269 == t270) = false := beq_eq_false_iff_ne.mpr c6
      have c6b1 : (t269 != t270) = true := bne_iff_ne.mpr c6
      obtain rfl := Option.some.inj H
      exact absurd hrt.out (by simp)

/-- THE ONE PURE STATEMENT of laws_FnPairsDigest: yours. -/
def laws_FnPairsDigest.Pure : Prop := ∀ (l0 : List Int), l0.length ≤ maxLen → l0.length * 1 ≤ 140737488351232 → (∀ x ∈ l0, (Lit.int .u8 x).wf = true) → ∃ k, laws_FnPairsDigest.f k l0 = some true
theorem laws_FnPairsDigest.walk (P : laws_FnPairsDigest.Pure) (a0 : Option Addr) (len0 cap0 : Nat) (z0 : List Int) (w : World) (w0 : (a0 = none ∧ len0 = 0 ∧ cap0 = 0 ∧ z0 = []) ∨ ∃ x, a0 = some x ∧ len0 ≤ cap0 ∧ cap0 ≤ maxLen ∧ z0.length = cap0 ∧ (∀ i, i < z0.length → w.cell? (x.add i) = some (.int .u8 (z0.getD i 0))) ∧ ∀ n ∈ z0, (Lit.int .u8 n).wf = true) (y0 : len0 * 1 ≤ 140737488351232) :
    Calls Try.prog 3 #[.slice a0 len0 cap0] w fun e w' => e = .returned (.bool true) ∧ Below w.heap.size w w' := by
  obtain ⟨l0, rfl, hr0, hm0, hw0, hc0⟩ := ReadsInt.ofRowC w0
  obtain ⟨k, h⟩ := P l0 hm0 y0 hw0
  refine (laws_FnPairsDigest.calls k _ _ l0 true w (Kd.C_of_reads (d := (0 : Int)) (h1 := fun _ => rfl) hr0) hc0 h ⟨rfl⟩).mono ?_
  rintro e w' ⟨rfl, hd⟩
  exact ⟨rfl, hd⟩

end Go.Proofs.Ytfeeifefmenlmaa.PFnPairsDigest
