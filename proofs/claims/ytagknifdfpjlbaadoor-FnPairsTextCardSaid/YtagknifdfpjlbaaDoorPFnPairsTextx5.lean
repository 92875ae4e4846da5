-- Written by a program of this session, in the manner of the kit's print (wip/pp.py): functions and their contracts.
import Derived.Test.YtagknifdfpjlbaaDoorPFnPairsTextx0
import Derived.Test.YtagknifdfpjlbaaDoorPFnPairsTextx2
import Derived.Test.YtagknifdfpjlbaaDoorPFnPairsTextx4
namespace Go.Proofs.YtagknifdfpjlbaaDoor.PFnPairsText
open Go.RowKit Go.Proofs.YtagknifdfpjlbaaDoorW.PrintWords Go.Proofs.YtagknifdfpjlbaaDoorW.PrintLast Go.Proofs.YtagknifdfpjlbaaDoorW.PrintMore
attribute [local go_sem] binOp_leq_str binOp_gtr_str binOp_geq_str max2_int min2_int max_two min_two max_three min_three max_four min_four Instr.field asAgg   -- for this text's walks alone
set_option linter.unusedVariables false
set_option linter.unusedSimpArgs false

/-! ### impl_PairsValid: function 11 -/
mutual
def impl_PairsValid.l0 : Nat → List (S47) → List (S47) → Int → Int → Option (Bool)
  | 0, _, _, _, _ => none
  | k + 1, a, b, c, d => if d < c then (if 0 ≤ d then (if d < (b.length : Int) then ((impl_KeyValid.f k ((rd_T47 b d).f0)).bind fun t239 => (if t239 = true then ((impl_valueValid.f ((rd_T47 b d).f1)).bind fun t240 => (impl_PairsValid.j1 k a d b c d (!t240) ((rd_T47 b d).f0) ((rd_T47 b d).f1))) else (impl_PairsValid.j1 k a d b c d true ((rd_T47 b d).f0) ((rd_T47 b d).f1)))) else (none)) else (none)) else (some true)
def impl_PairsValid.j1 : Nat → List (S47) → Int → List (S47) → Int → Int → Bool → ByteArray → Int → Option (Bool)
  | 0, _, _, _, _, _, _, _, _ => none
  | k + 1, a, b, c, d, e, f, g, i => if f = true then (some false) else (if b > 0 then (if 0 ≤ (wrap64 (b - 1)) then (if (wrap64 (b - 1)) < (a.length : Int) then (if ((Op.bytesLess (((rd_T47 a (wrap64 (b - 1))).f0).toList) g.toList) = true) then (impl_PairsValid.l0 k a c d (wrap64 (e + 1))) else (some false)) else (none)) else (none)) else (impl_PairsValid.l0 k a c d (wrap64 (e + 1))))
end
def impl_PairsValid.f (k : Nat) (l0 : List (S47)) : Option (Bool) := if (l0.length : Int) > 48 then (some false) else (impl_PairsValid.l0 k l0 l0 (l0.length : Int) 0)
theorem impl_PairsValid.mono_l : ∀ k, (∀ y0 y1 y2 y3, LeO (impl_PairsValid.l0 k y0 y1 y2 y3) (impl_PairsValid.l0 (k + 1) y0 y1 y2 y3)) ∧ (∀ y0 y1 y2 y3 y4 y5 y6 y7, LeO (impl_PairsValid.j1 k y0 y1 y2 y3 y4 y5 y6 y7) (impl_PairsValid.j1 (k + 1) y0 y1 y2 y3 y4 y5 y6 y7))
  | 0 => ⟨fun _ _ _ _ r h => by simp [impl_PairsValid.l0] at h, fun _ _ _ _ _ _ _ _ r h => by simp [impl_PairsValid.j1] at h⟩
  | k + 1 => by
    obtain ⟨ih0, ih1⟩ := impl_PairsValid.mono_l k
    refine ⟨?_, ?_⟩
    · intro y0 y1 y2 y3
      unfold impl_PairsValid.l0
      repeat' with_reducible first | exact ih0 _ _ _ _ | exact ih1 .. | exact impl_KeyValid.mono .. | exact LeO.refl _ | exact LeO.none _ | refine LeO.ite ?_ ?_ | refine LeO.bind ?_ (fun _ => ?_)
    · intro y0 y1 y2 y3 y4 y5 y6 y7
      unfold impl_PairsValid.j1
      repeat' with_reducible first | exact ih0 _ _ _ _ | exact ih1 .. | exact impl_KeyValid.mono .. | exact LeO.refl _ | exact LeO.none _ | refine LeO.ite ?_ ?_ | refine LeO.bind ?_ (fun _ => ?_)
theorem impl_PairsValid.mono : ∀ a0 k, LeO (impl_PairsValid.f k a0) (impl_PairsValid.f (k + 1) a0) := by
 intro a0 k; obtain ⟨ih0, ih1⟩ := impl_PairsValid.mono_l k; unfold impl_PairsValid.f; repeat' with_reducible first | exact ih0 _ _ _ _ | exact ih1 .. | exact impl_KeyValid.mono .. | exact LeO.refl _ | exact LeO.none _ | refine LeO.ite ?_ ?_ | refine LeO.bind ?_ (fun _ => ?_)
set_option maxHeartbeats 8000000 in
set_option maxRecDepth 100000 in
theorem impl_PairsValid.calls (k : Nat) (A0 : Option Addr) (c0 : Nat) (l0 : List (S47)) (r : Bool) (w : World) (hr0 : Kd.C k47 w A0 l0.length l0) (hc0 : l0.length ≤ c0) (h : impl_PairsValid.f k l0 = some r) :
    Calls Tryd.prog 11 #[.slice A0 l0.length c0] w fun e w' => e = .returned (.bool r) ∧ Below w.heap.size w w' := by
 have hu47 := Tryd.underlying47; have HR0 := Aside0.mk hr0; have HC0 := Aside0.mk hc0; clear hr0 hc0; have HB := Aside0.mk (Below.refl w.heap.size w); unfold impl_PairsValid.f at h; have H := h; clear h; by_cases c2 : (l0.length : Int) > 48
 ·rw [if_pos c2] at H; have c2b0 : decide (48 < (l0.length : Int)) = true := decide_eq_true c2; (have c2b1 : decide (48 < l0.length) = true := decide_eq_true (by omega)); clear c2; obtain rfl := Option.some.inj H; go_enter Tryd.func11, Tryd.ntmps11; go_wp2; (repeat (go_quiet (fail); try go_wp2)); go_ret; exact ⟨fe, bp HB.out⟩
 ·rw [if_neg c2] at H; have c2b0 : decide (48 < (l0.length : Int)) = false := decide_eq_false c2; (have c2b1 : decide (48 < l0.length) = false := decide_eq_false (by omega)); clear c2; have H' := Aside0.mk H; clear H; go_enter Tryd.func11, Tryd.ntmps11; go_wp2; (repeat (go_quiet (fail); try go_wp2)); go_loopg [10] k (fun kq v10 w' => ∃ (x10_1 : Int), v10 = .int .i64 x10_1 ∧ Aside0 (impl_PairsValid.l0 kq l0 l0 (l0.length : Int) x10_1 = some r) ∧ Aside0 (kq ≤ k) ∧ Aside0 (Below w.heap.size w w')); case atStart => exact ⟨(0), zfe, H', ⟨Nat.le_refl _⟩, ⟨bp HB.out⟩⟩
  case round =>
   clear H'; (try clear c1); (try clear c2); (try clear c2b0); (try clear c2b1); (try clear p2); obtain ⟨x10_1, rfl, HA, HK1, HB⟩ := hrel
   cases gk with
   | zero => exact absurd HA.out (by simp [impl_PairsValid.l0])
   | succ k1 =>
    have H := HA.out; clear HA; simp only [impl_PairsValid.l0] at H; by_cases c3 : x10_1 < (l0.length : Int)
    ·rw [if_pos c3] at H; have c3b0 : decide (x10_1 < (l0.length : Int)) = true := decide_eq_true c3; clear c3; by_cases c4 : 0 ≤ x10_1
     ·rw [if_pos c4] at H; have c4b0 : decide (0 ≤ x10_1) = true := decide_eq_true c4; clear c4; by_cases c5 : x10_1 < (l0.length : Int)
      ·rw [if_pos c5] at H; have c5b0 : decide (x10_1 < (l0.length : Int)) = true := decide_eq_true c5; clear c5; have HC6 := Aside0.mk H; clear H; have p237 : 0 ≤ (x10_1 : Int) := zda; have q237 : x10_1 < (l0.length : Int) := zda; obtain ⟨ad237, e237, hx237_0, hx237_1⟩ := at_T47 HR0.out x10_1 p237 q237; cases e237; replace hx237_0 := hcx HB hx237_0; replace hx237_1 := hcx HB hx237_1; replace p237 := eq_true p237; replace q237 := eq_true q237; (go_upto_region 6 with (first | ((with_reducible refine gate_dst (N := 4) rfl ?_); refine bxe (N := 4) (cs := #[.string (⟨#[]⟩ : ByteArray), .int .i64 0]) (t := 47) ?_; intro gb238 hg w7 hbox hb; have BK238 := Aside0.mk (hbox); have GW238 := an2 HB hg; have GE238 := an2 HB hg; replace HB := an0 HB hb; clear hb hbox hg; obtain ⟨z8a, z8b, f8a, f8b⟩ := cl2 BK238))); (repeat (go_quiet (first | ((with_reducible refine gate_dst (N := 4) rfl ?_); refine bxe (N := 4) (cs := #[.string (⟨#[]⟩ : ByteArray), .int .i64 0]) (t := 47) ?_; intro gb238 hg w7 hbox hb; have BK238 := Aside0.mk (hbox); have GW238 := an2 HB hg; have GE238 := an2 HB hg; replace HB := an0 HB hb; clear hb hbox hg; obtain ⟨z8a, z8b, f8a, f8b⟩ := cl2 BK238)); go_upto_region 6 with (first | ((with_reducible refine gate_dst (N := 4) rfl ?_); refine bxe (N := 4) (cs := #[.string (⟨#[]⟩ : ByteArray), .int .i64 0]) (t := 47) ?_; intro gb238 hg w7 hbox hb; have BK238 := Aside0.mk (hbox); have GW238 := an2 HB hg; have GE238 := an2 HB hg; replace HB := an0 HB hb; clear hb hbox hg; obtain ⟨z8a, z8b, f8a, f8b⟩ := cl2 BK238)))); (try simp only [Act.put, List.setIfInBounds_toArray, List.set_cons_zero, List.set_cons_succ]); go_cut [24] (fun v24 wc => ∃ (kq : Nat) (x24_5 : Bool), v24 = .bool x24_5 ∧ Aside0 (impl_PairsValid.j1 kq l0 x10_1 l0 (l0.length : Int) x10_1 x24_5 ((rd_T47 l0 x10_1).f0) ((rd_T47 l0 x10_1).f1) = some r) ∧ Aside0 (kq ≤ k1) ∧ Aside0 (wc.heap[gb238]? = some (.cells #[.string ((rd_T47 l0 x10_1).f0), .int .i64 ((rd_T47 l0 x10_1).f1)] 47 (0, 0))) ∧ Aside0 (Below w.heap.size w wc))
       case first =>
        have H := HC6.out; clear HC6; obtain ⟨t239, A9, H⟩ := zbd H; (try dsimp only at H); by_cases c10 : t239 = true
        ·subst c10; rw [if_pos rfl] at H; obtain ⟨t240, A11, H⟩ := zbd H; (try dsimp only at H); have H' := Aside0.mk H; clear H; obtain ⟨z12a, z12b, f12a, f12b⟩ := cl2 BK238; (go_wp2_with (first | (go_at_call 34; (with_reducible refine (impl_KeyValid.calls k1 ((rd_T47 l0 x10_1).f0) true _ A9.out).mono ?_); rintro e w' ⟨rfl, ⟨nd, rfl⟩⟩; (try exact zdd)) | (go_at_call 35; (with_reducible refine (impl_valueValid.calls ((rd_T47 l0 x10_1).f1) t240 _ A11.out).mono ?_); rintro e w' ⟨rfl, ⟨nd, rfl⟩⟩; (try exact zdd)))); (repeat (go_quiet (first | (go_at_call 34; (with_reducible refine (impl_KeyValid.calls k1 ((rd_T47 l0 x10_1).f0) true _ A9.out).mono ?_); rintro e w' ⟨rfl, ⟨nd, rfl⟩⟩; (try exact zdd)) | (go_at_call 35; (with_reducible refine (impl_valueValid.calls ((rd_T47 l0 x10_1).f1) t240 _ A11.out).mono ?_); rintro e w' ⟨rfl, ⟨nd, rfl⟩⟩; (try exact zdd))); try go_wp2_with (first | (go_at_call 34; (with_reducible refine (impl_KeyValid.calls k1 ((rd_T47 l0 x10_1).f0) true _ A9.out).mono ?_); rintro e w' ⟨rfl, ⟨nd, rfl⟩⟩; (try exact zdd)) | (go_at_call 35; (with_reducible refine (impl_valueValid.calls ((rd_T47 l0 x10_1).f1) t240 _ A11.out).mono ?_); rintro e w' ⟨rfl, ⟨nd, rfl⟩⟩; (try exact zdd))))); go_meet; case rel => exact ⟨_, (!t240), zfe, H', ⟨by have := HK1.out; first | omega | exact Nat.le_refl _⟩, ⟨by exact zb0 BK238.out⟩, ⟨bp HB.out⟩⟩
        ·replace c10 := Bool.eq_false_iff.mpr c10; subst c10; rw [if_neg zft] at H; have H' := Aside0.mk H; clear H; obtain ⟨z13a, z13b, f13a, f13b⟩ := cl2 BK238; (go_wp2_with (first | (go_at_call 34; (with_reducible refine (impl_KeyValid.calls k1 ((rd_T47 l0 x10_1).f0) false _ A9.out).mono ?_); rintro e w' ⟨rfl, ⟨nd, rfl⟩⟩; (try exact zdd)))); (repeat (go_quiet (first | (go_at_call 34; (with_reducible refine (impl_KeyValid.calls k1 ((rd_T47 l0 x10_1).f0) false _ A9.out).mono ?_); rintro e w' ⟨rfl, ⟨nd, rfl⟩⟩; (try exact zdd))); try go_wp2_with (first | (go_at_call 34; (with_reducible refine (impl_KeyValid.calls k1 ((rd_T47 l0 x10_1).f0) false _ A9.out).mono ?_); rintro e w' ⟨rfl, ⟨nd, rfl⟩⟩; (try exact zdd))))); go_meet; case rel => exact ⟨_, (true), zfe, H', ⟨by have := HK1.out; first | omega | exact Nat.le_refl _⟩, ⟨by exact zb0 BK238.out⟩, ⟨bp HB.out⟩⟩
       case rest =>
        clear HC6; (try clear c2); (try clear c2b0); (try clear c2b1); (try clear c3); (try clear c3b0); (try clear c4); (try clear c4b0); (try clear c5); (try clear c5b0); (try clear z8a); (try clear z8b); (try clear f8a); (try clear f8b); (try clear hx237_0); (try clear hx237_1); (try clear p237); (try clear q237); obtain ⟨kq, x24_5, rfl, HA, HJ5, BK238, HB⟩ := hcut
        cases kq with
        | zero => exact absurd HA.out (by simp [impl_PairsValid.j1])
        | succ kj5 =>
         have H := HA.out; clear HA; simp only [impl_PairsValid.j1] at H; by_cases c14 : x24_5 = true
         ·subst c14; rw [if_pos rfl] at H; obtain rfl := Option.some.inj H; go_wp2; (repeat (go_quiet (fail); try go_wp2)); go_ret; exact ⟨fe, bp HB.out⟩
         ·replace c14 := Bool.eq_false_iff.mpr c14; subst c14; rw [if_neg zft] at H; by_cases c15 : x10_1 > 0
          ·rw [if_pos c15] at H; have c15b0 : decide (0 < x10_1) = true := decide_eq_true c15; clear c15; obtain ⟨ji16, hji16⟩ : ∃ j_ : Int, (wrap64 (x10_1 - 1)) = j_ := ⟨_, rfl⟩; (replace H : (if 0 ≤ (ji16) then (if (ji16) < (l0.length : Int) then (if ((Op.bytesLess (((rd_T47 l0 (ji16)).f0).toList) ((rd_T47 l0 x10_1).f0).toList) = true) then (impl_PairsValid.l0 kj5 l0 l0 (l0.length : Int) (wrap64 (x10_1 + 1))) else (some false)) else (none)) else (none)) = some r := by first | (rw [hji16] at H; exact H) | (simp only [hji16] at H ⊢; exact H)); have hji16w : (IntKind.i64.wrap (x10_1 - 1)) = ji16 := (i64_w _).trans hji16; by_cases c17 : 0 ≤ (ji16)
           ·rw [if_pos c17] at H; have c17b0 : decide (0 ≤ (ji16)) = true := decide_eq_true c17; clear c17; by_cases c18 : (ji16) < (l0.length : Int)
            ·rw [if_pos c18] at H; have c18b0 : decide ((ji16) < (l0.length : Int)) = true := decide_eq_true c18; clear c18; by_cases c19 : ((Op.bytesLess (((rd_T47 l0 (ji16)).f0).toList) ((rd_T47 l0 x10_1).f0).toList) = true)
             ·rw [if_pos c19] at H; have c19b0 : (Op.bytesLess (((rd_T47 l0 (ji16)).f0).toList) ((rd_T47 l0 x10_1).f0).toList) = true := c19; clear c19; have H' := Aside0.mk H; clear H; have p241 : 0 ≤ ((ji16) : Int) := zda; have q241 : (ji16) < (l0.length : Int) := zda; obtain ⟨ad241, e241, hx241_0, hx241_1⟩ := at_T47 HR0.out (ji16) p241 q241; (obtain rfl : ad237 = ad241 := (by injection e241)); replace hx241_0 := hcx HB hx241_0; replace hx241_1 := hcx HB hx241_1; replace p241 := eq_true p241; replace q241 := eq_true q241; obtain ⟨z20a, z20b, f20a, f20b⟩ := cl2 BK238; go_wp2; (repeat (go_quiet (fail); try go_wp2)); go_roundg kj5; (case measure => have := HK1.out; have := HJ5.out; omega); case rel => exact ⟨(wrap64 (x10_1 + 1)), zfe, H', ⟨by have := HK1.out; have := HJ5.out; omega⟩, ⟨bp HB.out⟩⟩
             ·rw [if_neg c19] at H; (have c19b0 : (Op.bytesLess (((rd_T47 l0 (ji16)).f0).toList) ((rd_T47 l0 x10_1).f0).toList) = false := by simpa using c19); clear c19; obtain rfl := Option.some.inj H; have p241 : 0 ≤ ((ji16) : Int) := zda; have q241 : (ji16) < (l0.length : Int) := zda; obtain ⟨ad241, e241, hx241_0, hx241_1⟩ := at_T47 HR0.out (ji16) p241 q241; (obtain rfl : ad237 = ad241 := (by injection e241)); replace hx241_0 := hcx HB hx241_0; replace hx241_1 := hcx HB hx241_1; replace p241 := eq_true p241; replace q241 := eq_true q241; obtain ⟨z21a, z21b, f21a, f21b⟩ := cl2 BK238; go_wp2; (repeat (go_quiet (fail); try go_wp2)); go_ret; exact ⟨by first | rfl | (simp [errW_none, errW_some] <;> rfl) | (simp only [← hji16]; first | rfl | (simp [errW_none, errW_some] <;> rfl)) | (simp [*, errW_none, errW_some] <;> rfl) | (simp only [IntKind.wrap_u8, show ∀ n_ : Int, wrap64 (n_ % 256) = n_ % 256 from fun n_ => by unfold wrap64; omega]; rfl), bp HB.out⟩
            ·rw [if_neg c18] at H; exact absurd H (by simp)
           ·rw [if_neg c17] at H; exact absurd H (by simp)
          ·rw [if_neg c15] at H; have c15b0 : decide (0 < x10_1) = false := decide_eq_false c15; clear c15; have H' := Aside0.mk H; clear H; go_wp2; (repeat (go_quiet (fail); try go_wp2)); go_roundg kj5; (case measure => have := HK1.out; have := HJ5.out; omega); case rel => exact ⟨(wrap64 (x10_1 + 1)), zfe, H', ⟨by have := HK1.out; have := HJ5.out; omega⟩, ⟨bp HB.out⟩⟩
      ·rw [if_neg c5] at H; exact absurd H (by simp)
     ·rw [if_neg c4] at H; exact absurd H (by simp)
    ·rw [if_neg c3] at H; have c3b0 : decide (x10_1 < (l0.length : Int)) = false := decide_eq_false c3; clear c3; obtain rfl := Option.some.inj H; go_wp2; (repeat (go_quiet (fail); try go_wp2)); go_ret; exact ⟨fe, bp HB.out⟩
/-! ### strconv_Itoa: function 30 -/
def strconv_Itoa.f (a0 : Int) : Option (ByteArray) := if -9223372036854775808 ≤ a0 ∧ a0 ≤ 9223372036854775807 then some ⟨(Lib.itoa a0).toArray⟩ else none
theorem strconv_Itoa.calls (a0 : Int) (r : ByteArray) (w : World) (h : strconv_Itoa.f a0 = some r) (HTAB : Txts w := by first | exact HTAB | exact HTAB.below HB.out | exact HTAB.below (bp HB.out)) :
    Calls Tryd.prog 30 #[.int .i64 a0] w fun e w' => e = .returned (.string r) ∧ Below w.heap.size w w' := by
  unfold strconv_Itoa.f at h
  split at h
  · next hh =>
    obtain rfl := Option.some.inj h
    exact (Tryd.strconv_Itoa a0 hh.1 hh.2 w HTAB.tab).mono fun e w' ⟨he, k, os, hw⟩ => ⟨he, hw ▸ below_grow_drawn k os⟩
  · cases h

/-! ### strings_Join: function 31 -/
def strings_Join.f (l0 : List (ByteArray)) (a1 : ByteArray) : Option (ByteArray) := if l0.length ≤ 140737488355328 ∧ (Lib.join (l0.map (·.data.toList)) a1.data.toList).length ≤ 140737488355328 then some ⟨(Lib.join (l0.map (·.data.toList)) a1.data.toList).toArray⟩ else none
theorem strings_Join.calls (A0 : Option Addr) (c0 : Nat) (l0 : List (ByteArray)) (a1 : ByteArray) (r : ByteArray) (w : World) (hr0 : Kd.C Kd.string w A0 l0.length l0) (hc0 : l0.length ≤ c0) (h : strings_Join.f l0 a1 = some r) :
    Calls Tryd.prog 31 #[.slice A0 l0.length c0, .string a1] w fun e w' => e = .returned (.string r) ∧ Below w.heap.size w w' := by
  unfold strings_Join.f at h
  split at h
  · next hh =>
    obtain rfl := Option.some.inj h
    by_cases h0 : l0 = []
    · subst h0
      exact (Tryd.strings_Join_none A0 c0 a1 w).mono fun e w' ⟨he, hw⟩ => ⟨he, hw ▸ Below.refl _ _⟩
    · obtain ⟨bk, o, rfl, hb, hc⟩ := str_cells hr0 h0
      exact Tryd.strings_Join bk o c0 l0 a1 w hc hb hh.1 hc0 hh.2
  · cases h

/-! ### impl_PairsText: function 9 -/
def impl_PairsText.l0 : Nat → List ByteArray → List (S47) → Int → Int → Option (ByteArray)
  | 0, _, _, _, _ => none
  | k + 1, a, b, c, d => if d < c then (if 0 ≤ d then (if d < (b.length : Int) then (if ((rd_T47 b d).f0).size + 1 ≤ 9223372036854775807 then ((strconv_Itoa.f ((rd_T47 b d).f1)).bind fun t245 => (if (((rd_T47 b d).f0) ++ (⟨#[61]⟩ : ByteArray)).size + t245.size ≤ 9223372036854775807 then (if a.length < 8796093022208 then (impl_PairsText.l0 k (a ++ [(((rd_T47 b d).f0) ++ (⟨#[61]⟩ : ByteArray)) ++ t245]) b c (wrap64 (d + 1))) else (none)) else (none))) else (none)) else (none)) else (none)) else ((strings_Join.f a (⟨#[32]⟩ : ByteArray)).bind fun t249 => (some t249))
def impl_PairsText.f (k : Nat) (l0 : List (S47)) : Option (ByteArray) := (impl_PairsValid.f k l0).bind fun t242 => (if t242 = true then (impl_PairsText.l0 k ([] : List ByteArray) l0 (l0.length : Int) 0) else (some (⟨#[]⟩ : ByteArray)))
theorem impl_PairsText.mono_l : ∀ k, (∀ y0 y1 y2 y3, LeO (impl_PairsText.l0 k y0 y1 y2 y3) (impl_PairsText.l0 (k + 1) y0 y1 y2 y3))
  | 0 => fun _ _ _ _ r h => by simp [impl_PairsText.l0] at h
  | k + 1 => by
    have ih0 := impl_PairsText.mono_l k
    · intro y0 y1 y2 y3
      unfold impl_PairsText.l0
      repeat' with_reducible first | exact ih0 _ _ _ _ | exact impl_PairsValid.mono .. | exact LeO.refl _ | exact LeO.none _ | refine LeO.ite ?_ ?_ | refine LeO.bind ?_ (fun _ => ?_)
theorem impl_PairsText.mono : ∀ a0 k, LeO (impl_PairsText.f k a0) (impl_PairsText.f (k + 1) a0) := by
 intro a0 k; have ih0 := impl_PairsText.mono_l k; unfold impl_PairsText.f; repeat' with_reducible first | exact ih0 _ _ _ _ | exact impl_PairsValid.mono .. | exact LeO.refl _ | exact LeO.none _ | refine LeO.ite ?_ ?_ | refine LeO.bind ?_ (fun _ => ?_)
def impl_PairsText.T7 : Bool × List (List Nat × List Nat) := (true, [([], []), ([], []), ([1], [1]), ([2], [2]), ([], []), ([4], [4]), ([5], [5]), ([3, 6], [3, 6]), ([7], [7]), ([0, 8, 6], [0, 8]), ([9, 9, 0, 1, 2, 3, 4, 5, 6, 7, 8, 9], [0, 9])])
def impl_PairsText.B7 : List Nat := [0, 0, 2, 6, 0, 16, 48, 126, 254, 511, 1023]
theorem impl_PairsText.tab7 : rtab .any (opsOf Tryd.f9 7) = impl_PairsText.T7 := by kernel_rfl
theorem impl_PairsText.bits7 : waitsOk impl_PairsText.T7.2 impl_PairsText.B7 = true := by kernel_rfl
def q9m0 : Array Bool := Array.replicate 11 false
def q9m1 : Array Bool := mkB 11 1
def q9m2 : Array Bool := mkB 11 3
def q9m3 : Array Bool := mkB 11 19
def q9m4 : Array Bool := mkB 11 23
def q9m5 : Array Bool := mkB 11 31
def q9m6 : Array Bool := mkB 11 63
def q9m7 : Array Bool := mkB 11 127
def q9m8 : Array Bool := mkB 11 255
def q9m9 : Array Bool := mkB 11 511
def q9m10 : Array Bool := mkB 11 1023
def q9m11 : Array Bool := mkB 11 2047
set_option maxHeartbeats 8000000 in
set_option maxRecDepth 100000 in
theorem impl_PairsText.calls (k : Nat) (A0 : Option Addr) (c0 : Nat) (l0 : List (S47)) (r : ByteArray) (w : World) (hr0 : Kd.C k47 w A0 l0.length l0) (hc0 : l0.length ≤ c0) (h : impl_PairsText.f k l0 = some r) (HTAB : Txts w := by first | exact HTAB | exact HTAB.below HB.out | exact HTAB.below (bp HB.out)) :
    Calls Tryd.prog 9 #[.slice A0 l0.length c0] w fun e w' => e = .returned (.string r) ∧ Below w.heap.size w w' := by
 have hu47 := Tryd.underlying47; have HR0 := Aside0.mk hr0; have HC0 := Aside0.mk hc0; clear hr0 hc0; have HB := Aside0.mk (Below.refl w.heap.size w); unfold impl_PairsText.f at h; have H := h; clear h; obtain ⟨t242, A2, H⟩ := zbd H; (try dsimp only at H); have HC3 := Aside0.mk H; clear H; go_enter Tryd.func9, Tryd.ntmps9; (go_upto_if 8 with (first | ((with_reducible refine gate_callee (f := 11) rfl ?_); refine goesL_ (some 7) rfl rfl Tryd.func11 (by kernel_rfl) rfl #[.slice A0 l0.length c0] rfl (by (try simp only [List.map_toArray, List.map_cons, List.map_nil]); first | done | rfl | (simp only [List.length_drop, List.length_take]; rfl)) ?_; (with_reducible refine (impl_PairsValid.calls k _ _ l0 t242 _ ?side1 ?side2 A2.out).mono ?_); (case side1 => exact cc HR0.out); (case side2 => exact HC0.out); rintro e w4 ⟨rfl, hb⟩; refine ⟨_, rfl, ?_⟩; replace HB := an0 HB hb; (try clear hb); (try clear hb2); (try clear hk); (try clear hi); (try clear hgw)))); (try simp only [Act.put, List.setIfInBounds_toArray, List.set_cons_zero, List.set_cons_succ]); have H := HC3.out; clear HC3; by_cases c5 : t242 = true
 ·subst c5; rw [if_pos rfl] at H; have H' := Aside0.mk H; clear H; go_wp2; go_loopg [3, 11] k (fun kq v3 v11 w' => ∃ (x3_1 : List ByteArray) (x11_1 : Int), v11 = .int .i64 x11_1 ∧ Aside0 (impl_PairsText.l0 kq x3_1 l0 (l0.length : Int) x11_1 = some r) ∧ Aside0 (kq ≤ k) ∧ Aside0 (Kd.R Kd.string 9 w' w.heap.size (fun _ => True) v3 x3_1) ∧ Aside0 (Below w.heap.size w w')); case atStart => exact ⟨(([] : List ByteArray)), (0), zfe, H', ⟨Nat.le_refl _⟩, ⟨by first | exact Kd.R_nil _ _ _ _ _ | exact Kd.N_nil _ _ _ _ _ | exact Kd.V_nil _ _ _ _ _ | exact Kd.Q_nil _ _ _ _ _ | exact Kd.S_nil _ _ _ _ _⟩, ⟨bp HB.out⟩⟩
  case round =>
   clear H'; (try clear c1); (try clear p2); (try clear c5); obtain ⟨x3_1, x11_1, rfl, HA, HK1, HO_3, HB⟩ := hrel
   cases gk with
   | zero => exact absurd HA.out (by simp [impl_PairsText.l0])
   | succ k1 =>
    have H := HA.out; clear HA; simp only [impl_PairsText.l0] at H; by_cases c6 : x11_1 < (l0.length : Int)
    ·rw [if_pos c6] at H; have c6b0 : decide (x11_1 < (l0.length : Int)) = true := decide_eq_true c6; clear c6; (first | rw [c6b0] | (simp only [i64_w, i32_w]; rw [c6b0]) | skip); by_cases c7 : 0 ≤ x11_1
     ·rw [if_pos c7] at H; have c7b0 : decide (0 ≤ x11_1) = true := decide_eq_true c7; clear c7; by_cases c8 : x11_1 < (l0.length : Int)
      ·rw [if_pos c8] at H; have c8b0 : decide (x11_1 < (l0.length : Int)) = true := decide_eq_true c8; clear c8; by_cases c9 : ((rd_T47 l0 x11_1).f0).size + 1 ≤ 9223372036854775807
       ·rw [if_pos c9] at H; have c9b0 := eq_true c9; have c9b1 : decide (((rd_T47 l0 x11_1).f0).size + 1 ≤ 9223372036854775807) = true := decide_eq_true c9; (try have c9b2 : (9223372036854775807 < ((rd_T47 l0 x11_1).f0).size + 1) = False := eq_false (Nat.not_lt.2 c9)); obtain ⟨t245, A10, H⟩ := zbd H; (try dsimp only at H); by_cases c11 : (((rd_T47 l0 x11_1).f0) ++ (⟨#[61]⟩ : ByteArray)).size + t245.size ≤ 9223372036854775807
        ·rw [if_pos c11] at H; have c11b0 := eq_true c11; have c11b1 : decide ((((rd_T47 l0 x11_1).f0) ++ (⟨#[61]⟩ : ByteArray)).size + t245.size ≤ 9223372036854775807) = true := decide_eq_true c11; (try have c11b2 : (9223372036854775807 < (((rd_T47 l0 x11_1).f0) ++ (⟨#[61]⟩ : ByteArray)).size + t245.size) = False := eq_false (Nat.not_lt.2 c11)); (try (have c11b3 := c11b2; conv at c11b3 => (lhs; simp [go_sem]))); by_cases c12 : x3_1.length < 8796093022208
         ·rw [if_pos c12] at H; have LMc12 := Aside0.mk c12; clear c12; obtain ⟨y246, hy246⟩ : ∃ y_ : List ByteArray, y_ = (x3_1 ++ [(((rd_T47 l0 x11_1).f0) ++ (⟨#[61]⟩ : ByteArray)) ++ t245]) := ⟨_, rfl⟩; (replace H : (impl_PairsText.l0 k1 y246 l0 (l0.length : Int) (wrap64 (x11_1 + 1))) = some r := zsy H hy246); have Ny246 := Aside0.mk hy246; clear hy246; have H' := Aside0.mk H; clear H; have p243 : 0 ≤ (x11_1 : Int) := zda; have q243 : x11_1 < (l0.length : Int) := zda; obtain ⟨ad243, e243, hx243_0, hx243_1⟩ := at_T47 HR0.out x11_1 p243 q243; cases e243; replace hx243_0 := hcx HB hx243_0; replace hx243_1 := hcx HB hx243_1; replace p243 := eq_true p243; replace q243 := eq_true q243; (try go_wp2_with (first | ((with_reducible refine gate_dst (N := 5) rfl ?_); refine bxe (N := 5) (cs := #[.string (⟨#[]⟩ : ByteArray), .int .i64 0]) (t := 47) ?_; intro gb244 hg w13 hbox hb; have n_ := zn5 (Aside0.mk (Kd.R_below (kr HO_3.out) hb)) (an0 HB hb) (Aside0.mk (hbox)) (an2 HB hg) (an2 HB hg); clear HO_3 HB; obtain ⟨HO_3, HB, BK244, GW244, GE244⟩ := n_; clear hb hbox hg; obtain ⟨z14a, z14b, f14a, f14b⟩ := cl2 BK244))); (have n0_ : Aside0 (Kd.R Kd.string 9 ((w13.setCell ⟨gb244, 0, none⟩ (.string ((rd_T47 l0 x11_1).f0))).setCell ⟨gb244, 1, none⟩ (.int .i64 ((rd_T47 l0 x11_1).f1))) w.heap.size (fun _ => True) u3 x3_1) := ⟨by (with_reducible repeat (first | apply Kd.R_alloc | apply Kd.R_drewN | apply Kd.R_drew)); exact Kd.R_mono (Kd.R_far (p := ⟨gb244, 1, none⟩) (Kd.R_far (p := ⟨gb244, 0, none⟩) (Kd.R_types HO_3.out BK244.out (by decide)) (fun _ hk => hk.2) (.string ((rd_T47 l0 x11_1).f0))) (fun _ hk => hk.2) (.int .i64 ((rd_T47 l0 x11_1).f1))) (fun _ hk => trivial)⟩); (have n1_ : Aside0 (((w13.setCell ⟨gb244, 0, none⟩ (.string ((rd_T47 l0 x11_1).f0))).setCell ⟨gb244, 1, none⟩ (.int .i64 ((rd_T47 l0 x11_1).f1))).heap[gb244]? = some (.cells #[.string ((rd_T47 l0 x11_1).f0), .int .i64 ((rd_T47 l0 x11_1).f1)] 47 (0, 0))) := ⟨by exact zb0 BK244.out⟩); have n2_ : Aside0 (Below w.heap.size w ((w13.setCell ⟨gb244, 0, none⟩ (.string ((rd_T47 l0 x11_1).f0))).setCell ⟨gb244, 1, none⟩ (.int .i64 ((rd_T47 l0 x11_1).f1)))) := ⟨bp HB.out⟩; (try clear HO_3); (try clear BK244); (try clear HB); generalize ((w13.setCell ⟨gb244, 0, none⟩ (.string ((rd_T47 l0 x11_1).f0))).setCell ⟨gb244, 1, none⟩ (.int .i64 ((rd_T47 l0 x11_1).f1))) = w15 at n0_ n1_ n2_ ⊢; have HO_3 := n0_; have BK244 := n1_; have HB := n2_; clear n0_ n1_ n2_; have n0_ := Aside0.mk (Kd.R_drew HO_3.out); have n1_ := Aside0.mk (blk_drew BK244.out); have n2_ := Aside0.mk (below_drew1 HB.out); clear HO_3; clear BK244; clear HB; have HO_3 := n0_; have BK244 := n1_; have HB := n2_; clear n0_ n1_ n2_; (refine start_ (n := 11) (S := fun w' => w'.cell? ⟨gb244, 0, none⟩ = some (.string ((rd_T47 l0 x11_1).f0)) ∧ w'.cell? ⟨gb244, 1, none⟩ = some (.int .i64 ((rd_T47 l0 x11_1).f1))) (ds := []) q9m0 (by kernel_rfl) rfl rfl ⟨(blk_cell BK244.out 0).trans rfl, (blk_cell BK244.out 1).trans rfl⟩ (fun hHeld => ?_); refine with_tabW impl_PairsText.tab7 impl_PairsText.bits7 (fun HT_ HW_ => ?_)); generalize w15.drew = w16 at HO_3 BK244 HB hHeld ⊢; refine zp 0 15 q9m1 HT_.out ?_; refine zp 1 16 q9m2 HT_.out ?_; refine zp 4 19 q9m3 HT_.out ?_; refine tak (i := 2) (N := some 17) q9m4 rfl rfl HT_.out HW_.out hHeld ?_; refine zp 3 18 q9m5 HT_.out ?_; refine tak (i := 5) (N := some 20) q9m6 rfl rfl HT_.out HW_.out hHeld ?_; refine ones (i := 6) (N := some 21) q9m7 rfl rfl HT_.out (fun K hK => ?_); refine gos Tryd.func30 #[.int .i64 ((rd_T47 l0 x11_1).f1)] rfl ?_; (with_reducible refine (strconv_Itoa.calls ((rd_T47 l0 x11_1).f1) t245 _ A10.out).mono ?_); rintro e w17 ⟨rfl, hb⟩; refine ⟨_, rfl, ?_⟩; have n0_ := Aside0.mk (Kd.R_below (kr HO_3.out) hb); have n1_ := an1 BK244 hb; have n2_ := an0 HB hb; clear HO_3; clear BK244; clear HB; have HO_3 := n0_; have BK244 := n1_; have HB := n2_; clear n0_ n1_ n2_; (try clear hb); (try clear hk); refine hK.out _ _ (zc2 BK244) (fun hHeld => ?_); clear hK K; refine norm_ (a' := ?_) ?_ ?_; rotate_left
          ·show Act.put _ (some 21) _ = _; simp only [Act.put, List.setIfInBounds_toArray, List.set_cons_zero, List.set_cons_succ, i64_w, i32_w]; rfl
          refine zp 7 22 q9m8 HT_.out ?_; refine ones (i := 8) (N := some 23) q9m9 rfl rfl HT_.out (fun K hK => ?_); (refine value_ (w1 := ?_) (v := ?_) (by rfl) rfl ?_ ?_); rotate_left 2
          ·go_simp; constructor
           ·rfl
           ·rfl
          refine hK.out _ _ ⟨(blk_cell (blk_alloc BK244.out _) 0).trans rfl, (blk_cell (blk_alloc BK244.out _) 1).trans rfl⟩ (fun hHeld => ?_); clear hK K; refine norm_ (a' := ?_) ?_ ?_; rotate_left
          ·show Act.put _ (some 23) _ = _; simp only [Act.put, List.setIfInBounds_toArray, List.set_cons_zero, List.set_cons_succ, i64_w, i32_w]; rfl
          refine ones (i := 9) (N := some 24) q9m10 rfl rfl HT_.out (fun K hK => ?_); (refine Kd.R_append_step Kd.string (w0 := w) w.heap.size (by rfl) (.tmp 15) (.tmp 23) 45 9 (.string ⟨#[]⟩) 16 rfl Tryd.underlying45 info9 rfl (by decide) (by omega) u3 x3_1 ((((rd_T47 l0 x11_1).f0) ++ (⟨#[61]⟩ : ByteArray)) ++ t245) [.string ((((rd_T47 l0 x11_1).f0) ++ (⟨#[61]⟩ : ByteArray)) ++ t245)] (fun _ => True) (fun _ => False) rfl rfl ?aP (fun _ hk => hk.elim) ?aF ?aO ?aB ?aS ?aL ?_); (case aP => exact rfl); (case aB => exact (bp HB.out)); (case aF => exact (fun _ _ => trivial)); (case aO => exact (kr HO_3.out)); (case aS => exact (below_size (bp HB.out))); (case aL => have := LMc12.out; omega); intro v247 w18 ho hb hg hat; rw [← Ny246.out] at ho; (have n0_ := Aside0.mk (blk_grown (g := gb244) (o := .cells #[.string ((rd_T47 l0 x11_1).f0), .int .i64 ((rd_T47 l0 x11_1).f1)] 47 (0, 0)) (kb BK244.out) hg (Kd.R_ne HO_3.out BK244.out (by decide)))); have n1_ := Aside0.mk (hb); have n2_ := Aside0.mk (ho); clear BK244; clear HB; clear HO_3; have BK244 := n0_; have HB := n1_; have HO248 := n2_; clear n0_ n1_ n2_; clear ho hb hg hat; refine hK.out _ _ (zc2 BK244) (fun hHeld => ?_); clear hK K; refine norm_ (a' := ?_) ?_ ?_; rotate_left
          ·show Act.put _ (some 24) _ = _; simp only [Act.put, List.setIfInBounds_toArray, List.set_cons_zero, List.set_cons_succ, i64_w, i32_w]; rfl
          refine zp 10 3 q9m11 HT_.out ?_; (refine done_ (done_of HT_.out (by kernel_rfl)) ?_); (try go_wp2); go_roundg k1; (case measure => have := HK1.out; omega); case rel => exact ⟨(y246), (wrap64 (x11_1 + 1)), zfe, H', ⟨by have := HK1.out; omega⟩, ⟨by (with_reducible repeat (first | apply Kd.R_alloc | apply Kd.R_drewN | apply Kd.R_drew)); exact HO248.out⟩, ⟨bp HB.out⟩⟩
         ·rw [if_neg c12] at H; exact absurd H (by simp)
        ·rw [if_neg c11] at H; exact absurd H (by simp)
       ·rw [if_neg c9] at H; exact absurd H (by simp)
      ·rw [if_neg c8] at H; exact absurd H (by simp)
     ·rw [if_neg c7] at H; exact absurd H (by simp)
    ·rw [if_neg c6] at H; have c6b0 : decide (x11_1 < (l0.length : Int)) = false := decide_eq_false c6; clear c6; (first | rw [c6b0] | (simp only [i64_w, i32_w]; rw [c6b0]) | skip); obtain ⟨t249, A19, H⟩ := zbd H; (try dsimp only at H); obtain rfl := Option.some.inj H; obtain ⟨Ao20, co20, eo20⟩ := Kd.R_slice HO_3.out; subst eo20; (go_wp2_with (first | ((with_reducible refine gate_callee (f := 31) rfl ?_); refine goesL_ (some 27) rfl rfl Tryd.func31 (by kernel_rfl) rfl #[.slice Ao20 x3_1.length co20, .string (⟨#[32]⟩ : ByteArray)] rfl (by (try simp only [List.map_toArray, List.map_cons, List.map_nil]); first | done | rfl | (simp only [List.length_drop, List.length_take]; rfl)) ?_; (with_reducible refine (strings_Join.calls _ _ x3_1 (⟨#[32]⟩ : ByteArray) t249 _ ?side1 ?side2 A19.out).mono ?_); (case side1 => repeat (first | exact (Kd.R_reads' HO_3.out).2.2 | (with_reducible refine Kd.C_alloc ?_ _) | (with_reducible refine Kd.C_drewN ?_ _) | (with_reducible refine Kd.C_drew ?_))); (case side2 => exact (Kd.R_reads' HO_3.out).2.1); rintro e w21 ⟨rfl, hb⟩; refine ⟨_, rfl, ?_⟩; have n_ := zn2 (Aside0.mk (Kd.R_below (kr HO_3.out) hb)) (an0 HB hb); clear HO_3 HB; obtain ⟨HO_3, HB⟩ := n_; (try clear hb); (try clear hb2); (try clear hk); (try clear hi); (try clear hgw)))); go_ret; exact ⟨fe, bp HB.out⟩
 ·replace c5 := Bool.eq_false_iff.mpr c5; subst c5; rw [if_neg zft] at H; obtain rfl := Option.some.inj H; go_wp2; go_ret; exact ⟨fe, bp HB.out⟩
/-! ### spec_l7Text: function 33 -/
def spec_l7Text.l0 : Nat → Int → ByteArray → Option (ByteArray)
  | 0, _, _ => none
  | k + 1, a, b => if a > 9 then ((some (([(wrap64 (48 + (Int.tmod (wrap64 (Int.tdiv a 10)) 10))) % 256] : List Int) : List Int)).bind fun y253 => (if (strOfNums y253).size + b.size ≤ 9223372036854775807 then (spec_l7Text.l0 k (wrap64 (Int.tdiv a 10)) ((strOfNums y253) ++ b)) else (none))) else (some b)
def spec_l7Text.f (k : Nat) (a0 : Int) : Option (ByteArray) := if a0 < 0 then (some (⟨#[45, 49]⟩ : ByteArray)) else (spec_l7Text.l0 k a0 (strOfNums (([(wrap64 (48 + (Int.tmod a0 10))) % 256] : List Int))))
theorem spec_l7Text.mono_l : ∀ k, (∀ y0 y1, LeO (spec_l7Text.l0 k y0 y1) (spec_l7Text.l0 (k + 1) y0 y1))
  | 0 => fun _ _ r h => by simp [spec_l7Text.l0] at h
  | k + 1 => by
    have ih0 := spec_l7Text.mono_l k
    · intro y0 y1
      unfold spec_l7Text.l0
      repeat' with_reducible first | exact ih0 _ _ | exact LeO.refl _ | exact LeO.none _ | refine LeO.ite ?_ ?_ | refine LeO.bind ?_ (fun _ => ?_)
theorem spec_l7Text.mono : ∀ a0 k, LeO (spec_l7Text.f k a0) (spec_l7Text.f (k + 1) a0) := by
 intro a0 k; have ih0 := spec_l7Text.mono_l k; unfold spec_l7Text.f; repeat' with_reducible first | exact ih0 _ _ | exact LeO.refl _ | exact LeO.none _ | refine LeO.ite ?_ ?_ | refine LeO.bind ?_ (fun _ => ?_)
set_option maxHeartbeats 8000000 in
set_option maxRecDepth 100000 in
theorem spec_l7Text.calls (k : Nat) (a0 : Int) (r : ByteArray) (w : World) (h : spec_l7Text.f k a0 = some r) :
    Calls Tryd.prog 33 #[.int .i64 a0] w fun e w' => e = .returned (.string r) ∧ Below w.heap.size w w' := by
 have HB := Aside0.mk (Below.refl w.heap.size w); unfold spec_l7Text.f at h; have H := h; clear h; by_cases c2 : a0 < 0
 ·rw [if_pos c2] at H; have c2b0 : decide (a0 < 0) = true := decide_eq_true c2; clear c2; obtain rfl := Option.some.inj H; go_enter Tryd.func33, Tryd.ntmps33; go_wp2; go_ret; exact ⟨fe, bp HB.out⟩
 ·rw [if_neg c2] at H; have c2b0 : decide (a0 < 0) = false := decide_eq_false c2; clear c2; obtain ⟨y250, hy250⟩ : ∃ y_ : List Int, y_ = (([(wrap64 (48 + (Int.tmod a0 10))) % 256] : List Int)) := ⟨_, rfl⟩; (replace H : (spec_l7Text.l0 k a0 (strOfNums y250)) = some r := zsy H hy250); have Ny250 := Aside0.mk hy250; clear hy250; have H' := Aside0.mk H; clear H; go_enter Tryd.func33, Tryd.ntmps33; (go_wp2_with (first | ((with_reducible refine gate_dst (N := 10) rfl ?_); refine Kd.R_lit (Kd.int .u8) _ 5 ?hg (N := 10) ?hd (xs := ([(wrap64 (48 + (Int.tmod a0 10))) % 256] : List Int)) (inner := [.int .u8 ((wrap64 (48 + (Int.tmod a0 10))) % 256)]) (ok := fun _ => True) (okp := fun _ => True) ?hr ?hp (fun _ hk => hk) trivial (Below.refl _ _) (Nat.le_refl _) (by simp) ?_; (case hd => rfl); (case hg => rfl); (case hr => first | (go_simp; done) | (go_simp; rfl)); (case hp => exact (Reps.one (show Kd.M (Kd.int .u8) _ _ _ ((wrap64 (48 + (Int.tmod a0 10))) % 256) [.int .u8 ((wrap64 (48 + (Int.tmod a0 10))) % 256)] from rfl) (Reps.none _ _))); intro v251 w3 ho4 hb hg_ hnew_; clear hg_ hnew_; (first | rw [← Ny250.out] at ho4 | (simp only [Int.reduceToNat] at ho4; rw [← Ny250.out] at ho4)); have n_ := zn2 (Aside0.mk (Kd.R_lower ho4 (below_size (bp HB.out)))) (an0 HB hb); clear HB; obtain ⟨HO252, HB⟩ := n_; clear hb ho4; have hcv5 := own_string (P := Tryd.prog) Tryd.underlying22 Tryd.underlying5 Tryd.underlying9 (Kd.own_of_R HO252.out)))); go_loopg [0, 3] k (fun kq v0 v3 w' => ∃ (x0_1 : Int) (x3_1 : ByteArray), v0 = .int .i64 x0_1 ∧ v3 = .string x3_1 ∧ Aside0 (spec_l7Text.l0 kq x0_1 x3_1 = some r) ∧ Aside0 (kq ≤ k) ∧ Aside0 (Below w.heap.size w w')); case atStart => exact ⟨(a0), (strOfNums y250), zfe, zfe, H', ⟨Nat.le_refl _⟩, ⟨bp HB.out⟩⟩
  case round =>
   clear H'; (try clear c2); (try clear c2b0); (try clear p2); (try clear c3); (try clear hcv5); obtain ⟨x0_1, x3_1, rfl, rfl, HA, HK1, HB⟩ := hrel
   cases gk with
   | zero => exact absurd HA.out (by simp [spec_l7Text.l0])
   | succ k1 =>
    have H := HA.out; clear HA; simp only [spec_l7Text.l0] at H; by_cases c6 : x0_1 > 9
    ·rw [if_pos c6] at H; have c6b0 : decide (9 < x0_1) = true := decide_eq_true c6; clear c6; obtain ⟨y253, hy253⟩ : ∃ y_ : List Int, y_ = (([(wrap64 (48 + (Int.tmod (wrap64 (Int.tdiv x0_1 10)) 10))) % 256] : List Int)) := ⟨_, rfl⟩; (replace H : (if (strOfNums y253).size + x3_1.size ≤ 9223372036854775807 then (spec_l7Text.l0 k1 (wrap64 (Int.tdiv x0_1 10)) ((strOfNums y253) ++ x3_1)) else (none)) = some r := zsy H hy253); have Ny253 := Aside0.mk hy253; clear hy253; by_cases c7 : (strOfNums y253).size + x3_1.size ≤ 9223372036854775807
     ·rw [if_pos c7] at H; have c7b0 := eq_true c7; have c7b1 : decide ((strOfNums y253).size + x3_1.size ≤ 9223372036854775807) = true := decide_eq_true c7; (try have c7b2 : (9223372036854775807 < (strOfNums y253).size + x3_1.size) = False := eq_false (Nat.not_lt.2 c7)); have H' := Aside0.mk H; clear H; (go_wp2_with (first | ((with_reducible refine gate_dst (N := 20) rfl ?_); refine Kd.R_lit (Kd.int .u8) _ 5 ?hg (N := 20) ?hd (xs := ([(wrap64 (48 + (Int.tmod (wrap64 (Int.tdiv x0_1 10)) 10))) % 256] : List Int)) (inner := [.int .u8 ((wrap64 (48 + (Int.tmod (wrap64 (Int.tdiv x0_1 10)) 10))) % 256)]) (ok := fun _ => True) (okp := fun _ => True) ?hr ?hp (fun _ hk => hk) trivial (Below.refl _ _) (Nat.le_refl _) (by simp) ?_; (case hd => rfl); (case hg => rfl); (case hr => first | (go_simp; done) | (go_simp; rfl)); (case hp => exact (Reps.one (show Kd.M (Kd.int .u8) _ _ _ ((wrap64 (48 + (Int.tmod (wrap64 (Int.tdiv x0_1 10)) 10))) % 256) [.int .u8 ((wrap64 (48 + (Int.tmod (wrap64 (Int.tdiv x0_1 10)) 10))) % 256)] from rfl) (Reps.none _ _))); intro v254 w8 ho9 hb hg_ hnew_; clear hg_ hnew_; (first | rw [← Ny253.out] at ho9 | (simp only [Int.reduceToNat] at ho9; rw [← Ny253.out] at ho9)); have n_ := zn2 (Aside0.mk (Kd.R_lower ho9 (below_size (bp HB.out)))) (an0 HB hb); clear HB; obtain ⟨HO255, HB⟩ := n_; clear hb ho9; have hcv10 := own_string (P := Tryd.prog) Tryd.underlying22 Tryd.underlying5 Tryd.underlying9 (Kd.own_of_R HO255.out)))); go_roundg k1; (case measure => have := HK1.out; omega); case rel => exact ⟨(wrap64 (Int.tdiv x0_1 10)), ((strOfNums y253) ++ x3_1), zfe, zfe, H', ⟨by have := HK1.out; omega⟩, ⟨bp HB.out⟩⟩
     ·rw [if_neg c7] at H; exact absurd H (by simp)
    ·rw [if_neg c6] at H; have c6b0 : decide (9 < x0_1) = false := decide_eq_false c6; clear c6; obtain rfl := Option.some.inj H; go_wp2; go_ret; exact ⟨fe, bp HB.out⟩
/-! ### spec_PairsText: function 10 -/
mutual
def spec_PairsText.l0 : Nat → List (S47) → ByteArray → Int → Option (ByteArray)
  | 0, _, _, _ => none
  | k + 1, a, b, c => if c < (a.length : Int) then ((spec_PairsValid.f k a).bind fun t256 => (spec_PairsText.j1 k a b c t256)) else (spec_PairsText.j1 k a b c false)
def spec_PairsText.j1 : Nat → List (S47) → ByteArray → Int → Bool → Option (ByteArray)
  | 0, _, _, _, _ => none
  | k + 1, a, b, c, d => if d = true then (if c > 0 then (if b.size + 1 ≤ 9223372036854775807 then (if 0 ≤ c then (if c < (a.length : Int) then (if (b ++ (⟨#[32]⟩ : ByteArray)).size + ((rd_T47 a c).f0).size ≤ 9223372036854775807 then (if ((b ++ (⟨#[32]⟩ : ByteArray)) ++ ((rd_T47 a c).f0)).size + 1 ≤ 9223372036854775807 then ((spec_l7Text.f k ((rd_T47 a c).f1)).bind fun t259 => (if (((b ++ (⟨#[32]⟩ : ByteArray)) ++ ((rd_T47 a c).f0)) ++ (⟨#[61]⟩ : ByteArray)).size + t259.size ≤ 9223372036854775807 then (spec_PairsText.l0 k a ((((b ++ (⟨#[32]⟩ : ByteArray)) ++ ((rd_T47 a c).f0)) ++ (⟨#[61]⟩ : ByteArray)) ++ t259) (wrap64 (c + 1))) else (none))) else (none)) else (none)) else (none)) else (none)) else (none)) else (if 0 ≤ c then (if c < (a.length : Int) then (if b.size + ((rd_T47 a c).f0).size ≤ 9223372036854775807 then (if (b ++ ((rd_T47 a c).f0)).size + 1 ≤ 9223372036854775807 then ((spec_l7Text.f k ((rd_T47 a c).f1)).bind fun t262 => (if ((b ++ ((rd_T47 a c).f0)) ++ (⟨#[61]⟩ : ByteArray)).size + t262.size ≤ 9223372036854775807 then (spec_PairsText.l0 k a (((b ++ ((rd_T47 a c).f0)) ++ (⟨#[61]⟩ : ByteArray)) ++ t262) (wrap64 (c + 1))) else (none))) else (none)) else (none)) else (none)) else (none))) else (some b)
end
def spec_PairsText.f (k : Nat) (l0 : List (S47)) : Option (ByteArray) := spec_PairsText.l0 k l0 (⟨#[]⟩ : ByteArray) 0
theorem spec_PairsText.mono_l : ∀ k, (∀ y0 y1 y2, LeO (spec_PairsText.l0 k y0 y1 y2) (spec_PairsText.l0 (k + 1) y0 y1 y2)) ∧ (∀ y0 y1 y2 y3, LeO (spec_PairsText.j1 k y0 y1 y2 y3) (spec_PairsText.j1 (k + 1) y0 y1 y2 y3))
  | 0 => ⟨fun _ _ _ r h => by simp [spec_PairsText.l0] at h, fun _ _ _ _ r h => by simp [spec_PairsText.j1] at h⟩
  | k + 1 => by
    obtain ⟨ih0, ih1⟩ := spec_PairsText.mono_l k
    refine ⟨?_, ?_⟩
    · intro y0 y1 y2
      unfold spec_PairsText.l0
      repeat' with_reducible first | exact ih0 _ _ _ | exact ih1 _ _ _ _ | exact spec_PairsValid.mono .. | exact spec_l7Text.mono .. | exact LeO.refl _ | exact LeO.none _ | refine LeO.ite ?_ ?_ | refine LeO.bind ?_ (fun _ => ?_)
    · intro y0 y1 y2 y3
      unfold spec_PairsText.j1
      repeat' with_reducible first | exact ih0 _ _ _ | exact ih1 _ _ _ _ | exact spec_PairsValid.mono .. | exact spec_l7Text.mono .. | exact LeO.refl _ | exact LeO.none _ | refine LeO.ite ?_ ?_ | refine LeO.bind ?_ (fun _ => ?_)
theorem spec_PairsText.mono : ∀ a0 k, LeO (spec_PairsText.f k a0) (spec_PairsText.f (k + 1) a0) := by
 intro a0 k; obtain ⟨ih0, ih1⟩ := spec_PairsText.mono_l k; unfold spec_PairsText.f; repeat' with_reducible first | exact ih0 _ _ _ | exact ih1 _ _ _ _ | exact spec_PairsValid.mono .. | exact spec_l7Text.mono .. | exact LeO.refl _ | exact LeO.none _ | refine LeO.ite ?_ ?_ | refine LeO.bind ?_ (fun _ => ?_)
def spec_PairsText.T7 : Bool × List (List Nat × List Nat) := (true, [([], []), ([], []), ([], []), ([1, 2], [1, 2]), ([3], [3]), ([4], [4]), ([0, 5], [0, 5]), ([6], [6]), ([], []), ([], []), ([8, 9], [8, 9]), ([10], [10]), ([11], [11]), ([12], [12]), ([7, 13], [7, 13]), ([14, 13, 0, 1, 2, 3, 4, 5, 6, 7, 8, 9, 10, 11, 12, 13, 14], [0, 14])])
def spec_PairsText.B7 : List Nat := [0, 0, 0, 6, 14, 30, 63, 127, 0, 0, 768, 1792, 3840, 7936, 16383, 32767]
theorem spec_PairsText.tab7 : rtab .any (opsOf Tryd.f10 7) = spec_PairsText.T7 := by kernel_rfl
theorem spec_PairsText.bits7 : waitsOk spec_PairsText.T7.2 spec_PairsText.B7 = true := by kernel_rfl
def q10m0 : Array Bool := Array.replicate 16 false
def q10m1 : Array Bool := mkB 16 1
def q10m2 : Array Bool := mkB 16 3
def q10m3 : Array Bool := mkB 16 7
def q10m4 : Array Bool := mkB 16 15
def q10m5 : Array Bool := mkB 16 31
def q10m6 : Array Bool := mkB 16 287
def q10m7 : Array Bool := mkB 16 799
def q10m8 : Array Bool := mkB 16 1823
def q10m9 : Array Bool := mkB 16 3871
def q10m10 : Array Bool := mkB 16 3903
def q10m11 : Array Bool := mkB 16 3967
def q10m12 : Array Bool := mkB 16 4095
def q10m13 : Array Bool := mkB 16 8191
def q10m14 : Array Bool := mkB 16 16383
def q10m15 : Array Bool := mkB 16 32767
def q10m16 : Array Bool := mkB 16 65535
set_option maxHeartbeats 8000000 in
set_option maxRecDepth 100000 in
theorem spec_PairsText.calls (k : Nat) (A0 : Option Addr) (c0 : Nat) (l0 : List (S47)) (r : ByteArray) (w : World) (hr0 : Kd.C k47 w A0 l0.length l0) (hc0 : l0.length ≤ c0) (h : spec_PairsText.f k l0 = some r) :
    Calls Tryd.prog 10 #[.slice A0 l0.length c0] w fun e w' => e = .returned (.string r) ∧ Below w.heap.size w w' := by
 have HR0 := Aside0.mk hr0; have HC0 := Aside0.mk hc0; clear hr0 hc0; have HB := Aside0.mk (Below.refl w.heap.size w); unfold spec_PairsText.f at h; have H := h; clear h; have H' := Aside0.mk H; clear H; go_enter Tryd.func10, Tryd.ntmps10; go_wp2; go_loopg [3, 4] k (fun kq v3 v4 w' => ∃ (x3_1 : ByteArray) (x4_1 : Int), v3 = .string x3_1 ∧ v4 = .int .i64 x4_1 ∧ Aside0 (spec_PairsText.l0 kq l0 x3_1 x4_1 = some r) ∧ Aside0 (kq ≤ k) ∧ Aside0 (Below w.heap.size w w')); case atStart => exact ⟨((⟨#[]⟩ : ByteArray)), (0), zfe, zfe, H', ⟨Nat.le_refl _⟩, ⟨bp HB.out⟩⟩
 case round =>
  clear H'; (try clear c1); obtain ⟨x3_1, x4_1, rfl, rfl, HA, HK1, HB⟩ := hrel
  cases gk with
  | zero => exact absurd HA.out (by simp [spec_PairsText.l0])
  | succ k1 =>
   have H := HA.out; clear HA; simp only [spec_PairsText.l0] at H; have HC2 := Aside0.mk H; clear H; go_upto_region 3 with (fail); go_cut [12] (fun v12 wc => ∃ (kq : Nat) (x12_1 : Bool), v12 = .bool x12_1 ∧ Aside0 (spec_PairsText.j1 kq l0 x3_1 x4_1 x12_1 = some r) ∧ Aside0 (kq ≤ k1) ∧ Aside0 (Below w.heap.size w wc))
   case first =>
    have H := HC2.out; clear HC2; by_cases c3 : x4_1 < (l0.length : Int)
    ·rw [if_pos c3] at H; have c3b0 : decide (x4_1 < (l0.length : Int)) = true := decide_eq_true c3; clear c3; (first | rw [c3b0] | (simp only [i64_w, i32_w]; rw [c3b0]) | skip); obtain ⟨t256, A4, H⟩ := zbd H; (try dsimp only at H); have H' := Aside0.mk H; clear H; (go_wp2_with (first | (go_at_call 32; (with_reducible refine (spec_PairsValid.calls k1 _ _ l0 t256 _ ?side1 ?side2 A4.out).mono ?_); (case side1 => exact cc (Kd.C_below HR0.out HB.out)); (case side2 => exact HC0.out); rintro e w5 ⟨rfl, hb⟩; replace HB := an0 HB hb; (try clear hb); (try clear hb2); (try clear hk); (try clear hi); (try clear hgw)))); go_meet; case rel => exact ⟨_, (t256), zfe, H', ⟨by have := HK1.out; first | omega | exact Nat.le_refl _⟩, ⟨bp HB.out⟩⟩
    ·rw [if_neg c3] at H; have c3b0 : decide (x4_1 < (l0.length : Int)) = false := decide_eq_false c3; clear c3; (first | rw [c3b0] | (simp only [i64_w, i32_w]; rw [c3b0]) | skip); have H' := Aside0.mk H; clear H; go_wp2; go_meet; case rel => exact ⟨_, (false), zfe, H', ⟨by have := HK1.out; first | omega | exact Nat.le_refl _⟩, ⟨bp HB.out⟩⟩
   case rest =>
    clear HC2; (try clear c1); (try clear p2); (try clear c3); (try clear c3b0); obtain ⟨kq, x12_1, rfl, HA, HJ1, HB⟩ := hcut
    cases kq with
    | zero => exact absurd HA.out (by simp [spec_PairsText.j1])
    | succ kj1 =>
     have H := HA.out; clear HA; simp only [spec_PairsText.j1] at H; by_cases c6 : x12_1 = true
     ·subst c6; rw [if_pos rfl] at H; by_cases c7 : x4_1 > 0
      ·rw [if_pos c7] at H; have c7b0 : decide (0 < x4_1) = true := decide_eq_true c7; clear c7; by_cases c8 : x3_1.size + 1 ≤ 9223372036854775807
       ·rw [if_pos c8] at H; have c8b0 := eq_true c8; have c8b1 : decide (x3_1.size + 1 ≤ 9223372036854775807) = true := decide_eq_true c8; (try have c8b2 : (9223372036854775807 < x3_1.size + 1) = False := eq_false (Nat.not_lt.2 c8)); by_cases c9 : 0 ≤ x4_1
        ·rw [if_pos c9] at H; have c9b0 : decide (0 ≤ x4_1) = true := decide_eq_true c9; clear c9; by_cases c10 : x4_1 < (l0.length : Int)
         ·rw [if_pos c10] at H; have c10b0 : decide (x4_1 < (l0.length : Int)) = true := decide_eq_true c10; clear c10; by_cases c11 : (x3_1 ++ (⟨#[32]⟩ : ByteArray)).size + ((rd_T47 l0 x4_1).f0).size ≤ 9223372036854775807
          ·rw [if_pos c11] at H; have c11b0 := eq_true c11; have c11b1 : decide ((x3_1 ++ (⟨#[32]⟩ : ByteArray)).size + ((rd_T47 l0 x4_1).f0).size ≤ 9223372036854775807) = true := decide_eq_true c11; (try have c11b2 : (9223372036854775807 < (x3_1 ++ (⟨#[32]⟩ : ByteArray)).size + ((rd_T47 l0 x4_1).f0).size) = False := eq_false (Nat.not_lt.2 c11)); (try (have c11b3 := c11b2; conv at c11b3 => (lhs; simp [go_sem]))); by_cases c12 : ((x3_1 ++ (⟨#[32]⟩ : ByteArray)) ++ ((rd_T47 l0 x4_1).f0)).size + 1 ≤ 9223372036854775807
           ·rw [if_pos c12] at H; have c12b0 := eq_true c12; have c12b1 : decide (((x3_1 ++ (⟨#[32]⟩ : ByteArray)) ++ ((rd_T47 l0 x4_1).f0)).size + 1 ≤ 9223372036854775807) = true := decide_eq_true c12; (try have c12b2 : (9223372036854775807 < ((x3_1 ++ (⟨#[32]⟩ : ByteArray)) ++ ((rd_T47 l0 x4_1).f0)).size + 1) = False := eq_false (Nat.not_lt.2 c12)); (try (have c12b3 := c12b2; conv at c12b3 => (lhs; simp [go_sem]))); obtain ⟨t259, A13, H⟩ := zbd H; (try dsimp only at H); by_cases c14 : (((x3_1 ++ (⟨#[32]⟩ : ByteArray)) ++ ((rd_T47 l0 x4_1).f0)) ++ (⟨#[61]⟩ : ByteArray)).size + t259.size ≤ 9223372036854775807
            ·rw [if_pos c14] at H; have c14b0 := eq_true c14; have c14b1 : decide ((((x3_1 ++ (⟨#[32]⟩ : ByteArray)) ++ ((rd_T47 l0 x4_1).f0)) ++ (⟨#[61]⟩ : ByteArray)).size + t259.size ≤ 9223372036854775807) = true := decide_eq_true c14; (try have c14b2 : (9223372036854775807 < (((x3_1 ++ (⟨#[32]⟩ : ByteArray)) ++ ((rd_T47 l0 x4_1).f0)) ++ (⟨#[61]⟩ : ByteArray)).size + t259.size) = False := eq_false (Nat.not_lt.2 c14)); (try (have c14b3 := c14b2; conv at c14b3 => (lhs; simp [go_sem]))); have H' := Aside0.mk H; clear H; (try go_wp2); have n0_ := Aside0.mk (below_drew1 HB.out); clear HB; have HB := n0_; clear n0_; have p257 : 0 ≤ (x4_1 : Int) := zda; have q257 : x4_1 < (l0.length : Int) := zda; obtain ⟨ad257, e257, hx257_0, hx257_1⟩ := at_T47 HR0.out x4_1 p257 q257; have hw257_1 := hx257_1; have hw257_0 := hx257_0; cases e257; replace hx257_0 := hcx HB hx257_0; replace hx257_1 := hcx HB hx257_1; replace p257 := eq_true p257; replace q257 := eq_true q257; have p258 : 0 ≤ (x4_1 : Int) := zda; have q258 : x4_1 < (l0.length : Int) := zda; obtain ⟨ad258, e258, hx258_0, hx258_1⟩ := at_T47 HR0.out x4_1 p258 q258; have hw258_1 := hx258_1; have hw258_0 := hx258_0; (obtain rfl : ad257 = ad258 := (by injection e258)); replace hx258_0 := hcx HB hx258_0; replace hx258_1 := hcx HB hx258_1; replace p258 := eq_true p258; replace q258 := eq_true q258; (refine start_ (n := 16) (S := fun w' => w'.cell? (ad257.add ((x4_1).toNat * 2)) = some (.string ((rd_T47 l0 x4_1).f0)) ∧ w'.cell? ⟨(ad257.add ((x4_1).toNat * 2)).block, (ad257.add ((x4_1).toNat * 2)).off + 1, none⟩ = some (.int .i64 ((rd_T47 l0 x4_1).f1)) ∧ w'.cell? (ad257.add ((x4_1).toNat * 2)) = some (.string ((rd_T47 l0 x4_1).f0)) ∧ w'.cell? ⟨(ad257.add ((x4_1).toNat * 2)).block, (ad257.add ((x4_1).toNat * 2)).off + 1, none⟩ = some (.int .i64 ((rd_T47 l0 x4_1).f1))) (ds := []) q10m0 (by kernel_rfl) rfl rfl ⟨(hcx HB hw257_0), (hcx HB hw257_1), (hcx HB hw258_0), (hcx HB hw258_1)⟩ (fun hHeld => ?_); refine with_tabW spec_PairsText.tab7 spec_PairsText.bits7 (fun HT_ HW_ => ?_)); generalize wc.drew = w15 at HB hx257_0 hx257_1 hx258_0 hx258_1 hHeld ⊢; refine zp 0 19 q10m1 HT_.out ?_; refine zp 1 20 q10m2 HT_.out ?_; refine zp 2 21 q10m3 HT_.out ?_; refine zp 3 22 q10m4 HT_.out ?_; refine zp 4 23 q10m5 HT_.out ?_; refine zp 8 27 q10m6 HT_.out ?_; refine zp 9 28 q10m7 HT_.out ?_; refine zp 10 29 q10m8 HT_.out ?_; refine zp 11 30 q10m9 HT_.out ?_; refine tak (i := 5) (N := some 24) q10m10 rfl rfl HT_.out HW_.out hHeld ?_; refine zp 6 25 q10m11 HT_.out ?_; refine zp 7 26 q10m12 HT_.out ?_; refine tak (i := 12) (N := some 31) q10m13 rfl rfl HT_.out HW_.out hHeld ?_; refine ones (i := 13) (N := some 32) q10m14 rfl rfl HT_.out (fun K hK => ?_); refine gos Tryd.func33 #[.int .i64 ((rd_T47 l0 x4_1).f1)] rfl ?_; (with_reducible refine (spec_l7Text.calls kj1 ((rd_T47 l0 x4_1).f1) t259 _ A13.out).mono ?_); rintro e w16 ⟨rfl, hb⟩; refine ⟨_, rfl, ?_⟩; have n0_ := an0 HB hb; clear HB; have HB := n0_; clear n0_; (try clear hb); (try clear hb2); (try clear hk); (try clear hi); (try clear hgw); refine hK.out _ _ ⟨(hcx HB hw257_0), (hcx HB hw257_1), (hcx HB hw258_0), (hcx HB hw258_1)⟩ (fun hHeld => ?_); clear hK K; refine norm_ (a' := ?_) ?_ ?_; rotate_left
             ·show Act.put _ (some 32) _ = _; simp only [Act.put, List.setIfInBounds_toArray, List.set_cons_zero, List.set_cons_succ, i64_w, i32_w]; rfl
             refine zp 14 33 q10m15 HT_.out ?_; refine zp 15 3 q10m16 HT_.out ?_; (refine done_ (done_of HT_.out (by kernel_rfl)) ?_); (try go_wp2); go_roundg kj1; (case measure => have := HK1.out; have := HJ1.out; omega); case rel => exact ⟨((((x3_1 ++ (⟨#[32]⟩ : ByteArray)) ++ ((rd_T47 l0 x4_1).f0)) ++ (⟨#[61]⟩ : ByteArray)) ++ t259), (wrap64 (x4_1 + 1)), zfe, zfe, H', ⟨by have := HK1.out; have := HJ1.out; omega⟩, ⟨bp HB.out⟩⟩
            ·rw [if_neg c14] at H; exact absurd H (by simp)
           ·rw [if_neg c12] at H; exact absurd H (by simp)
          ·rw [if_neg c11] at H; exact absurd H (by simp)
         ·rw [if_neg c10] at H; exact absurd H (by simp)
        ·rw [if_neg c9] at H; exact absurd H (by simp)
       ·rw [if_neg c8] at H; exact absurd H (by simp)
      ·rw [if_neg c7] at H; have c7b0 : decide (0 < x4_1) = false := decide_eq_false c7; clear c7; by_cases c17 : 0 ≤ x4_1
       ·rw [if_pos c17] at H; have c17b0 : decide (0 ≤ x4_1) = true := decide_eq_true c17; clear c17; by_cases c18 : x4_1 < (l0.length : Int)
        ·rw [if_pos c18] at H; have c18b0 : decide (x4_1 < (l0.length : Int)) = true := decide_eq_true c18; clear c18; by_cases c19 : x3_1.size + ((rd_T47 l0 x4_1).f0).size ≤ 9223372036854775807
         ·rw [if_pos c19] at H; have c19b0 := eq_true c19; have c19b1 : decide (x3_1.size + ((rd_T47 l0 x4_1).f0).size ≤ 9223372036854775807) = true := decide_eq_true c19; (try have c19b2 : (9223372036854775807 < x3_1.size + ((rd_T47 l0 x4_1).f0).size) = False := eq_false (Nat.not_lt.2 c19)); by_cases c20 : (x3_1 ++ ((rd_T47 l0 x4_1).f0)).size + 1 ≤ 9223372036854775807
          ·rw [if_pos c20] at H; have c20b0 := eq_true c20; have c20b1 : decide ((x3_1 ++ ((rd_T47 l0 x4_1).f0)).size + 1 ≤ 9223372036854775807) = true := decide_eq_true c20; (try have c20b2 : (9223372036854775807 < (x3_1 ++ ((rd_T47 l0 x4_1).f0)).size + 1) = False := eq_false (Nat.not_lt.2 c20)); (try (have c20b3 := c20b2; conv at c20b3 => (lhs; simp [go_sem]))); obtain ⟨t262, A21, H⟩ := zbd H; (try dsimp only at H); by_cases c22 : ((x3_1 ++ ((rd_T47 l0 x4_1).f0)) ++ (⟨#[61]⟩ : ByteArray)).size + t262.size ≤ 9223372036854775807
           ·rw [if_pos c22] at H; have c22b0 := eq_true c22; have c22b1 : decide (((x3_1 ++ ((rd_T47 l0 x4_1).f0)) ++ (⟨#[61]⟩ : ByteArray)).size + t262.size ≤ 9223372036854775807) = true := decide_eq_true c22; (try have c22b2 : (9223372036854775807 < ((x3_1 ++ ((rd_T47 l0 x4_1).f0)) ++ (⟨#[61]⟩ : ByteArray)).size + t262.size) = False := eq_false (Nat.not_lt.2 c22)); (try (have c22b3 := c22b2; conv at c22b3 => (lhs; simp [go_sem]))); have H' := Aside0.mk H; clear H; (try go_wp2); have n0_ := Aside0.mk (below_drew1 HB.out); clear HB; have HB := n0_; clear n0_; have p260 : 0 ≤ (x4_1 : Int) := zda; have q260 : x4_1 < (l0.length : Int) := zda; obtain ⟨ad260, e260, hx260_0, hx260_1⟩ := at_T47 HR0.out x4_1 p260 q260; have hw260_1 := hx260_1; have hw260_0 := hx260_0; cases e260; replace hx260_0 := hcx HB hx260_0; replace hx260_1 := hcx HB hx260_1; replace p260 := eq_true p260; replace q260 := eq_true q260; have p261 : 0 ≤ (x4_1 : Int) := zda; have q261 : x4_1 < (l0.length : Int) := zda; obtain ⟨ad261, e261, hx261_0, hx261_1⟩ := at_T47 HR0.out x4_1 p261 q261; have hw261_1 := hx261_1; have hw261_0 := hx261_0; (obtain rfl : ad260 = ad261 := (by injection e261)); replace hx261_0 := hcx HB hx261_0; replace hx261_1 := hcx HB hx261_1; replace p261 := eq_true p261; replace q261 := eq_true q261; (refine start_ (n := 16) (S := fun w' => w'.cell? (ad260.add ((x4_1).toNat * 2)) = some (.string ((rd_T47 l0 x4_1).f0)) ∧ w'.cell? ⟨(ad260.add ((x4_1).toNat * 2)).block, (ad260.add ((x4_1).toNat * 2)).off + 1, none⟩ = some (.int .i64 ((rd_T47 l0 x4_1).f1)) ∧ w'.cell? (ad260.add ((x4_1).toNat * 2)) = some (.string ((rd_T47 l0 x4_1).f0)) ∧ w'.cell? ⟨(ad260.add ((x4_1).toNat * 2)).block, (ad260.add ((x4_1).toNat * 2)).off + 1, none⟩ = some (.int .i64 ((rd_T47 l0 x4_1).f1))) (ds := []) q10m0 (by kernel_rfl) rfl rfl ⟨(hcx HB hw260_0), (hcx HB hw260_1), (hcx HB hw261_0), (hcx HB hw261_1)⟩ (fun hHeld => ?_); refine with_tabW spec_PairsText.tab7 spec_PairsText.bits7 (fun HT_ HW_ => ?_)); generalize wc.drew = w23 at HB hx260_0 hx260_1 hx261_0 hx261_1 hHeld ⊢; refine zp 0 19 q10m1 HT_.out ?_; refine zp 1 20 q10m2 HT_.out ?_; refine zp 2 21 q10m3 HT_.out ?_; refine zp 3 22 q10m4 HT_.out ?_; refine zp 4 23 q10m5 HT_.out ?_; refine zp 8 27 q10m6 HT_.out ?_; refine zp 9 28 q10m7 HT_.out ?_; refine zp 10 29 q10m8 HT_.out ?_; refine zp 11 30 q10m9 HT_.out ?_; refine tak (i := 5) (N := some 24) q10m10 rfl rfl HT_.out HW_.out hHeld ?_; refine zp 6 25 q10m11 HT_.out ?_; refine zp 7 26 q10m12 HT_.out ?_; refine tak (i := 12) (N := some 31) q10m13 rfl rfl HT_.out HW_.out hHeld ?_; refine ones (i := 13) (N := some 32) q10m14 rfl rfl HT_.out (fun K hK => ?_); refine gos Tryd.func33 #[.int .i64 ((rd_T47 l0 x4_1).f1)] rfl ?_; (with_reducible refine (spec_l7Text.calls kj1 ((rd_T47 l0 x4_1).f1) t262 _ A21.out).mono ?_); rintro e w24 ⟨rfl, hb⟩; refine ⟨_, rfl, ?_⟩; have n0_ := an0 HB hb; clear HB; have HB := n0_; clear n0_; (try clear hb); (try clear hb2); (try clear hk); (try clear hi); (try clear hgw); refine hK.out _ _ ⟨(hcx HB hw260_0), (hcx HB hw260_1), (hcx HB hw261_0), (hcx HB hw261_1)⟩ (fun hHeld => ?_); clear hK K; refine norm_ (a' := ?_) ?_ ?_; rotate_left
            ·show Act.put _ (some 32) _ = _; simp only [Act.put, List.setIfInBounds_toArray, List.set_cons_zero, List.set_cons_succ, i64_w, i32_w]; rfl
            refine zp 14 33 q10m15 HT_.out ?_; refine zp 15 3 q10m16 HT_.out ?_; (refine done_ (done_of HT_.out (by kernel_rfl)) ?_); (try go_wp2); go_roundg kj1; (case measure => have := HK1.out; have := HJ1.out; omega); case rel => exact ⟨(((x3_1 ++ ((rd_T47 l0 x4_1).f0)) ++ (⟨#[61]⟩ : ByteArray)) ++ t262), (wrap64 (x4_1 + 1)), zfe, zfe, H', ⟨by have := HK1.out; have := HJ1.out; omega⟩, ⟨bp HB.out⟩⟩
           ·rw [if_neg c22] at H; exact absurd H (by simp)
          ·rw [if_neg c20] at H; exact absurd H (by simp)
         ·rw [if_neg c19] at H; exact absurd H (by simp)
        ·rw [if_neg c18] at H; exact absurd H (by simp)
       ·rw [if_neg c17] at H; exact absurd H (by simp)
     ·replace c6 := Bool.eq_false_iff.mpr c6; subst c6; rw [if_neg zft] at H; obtain rfl := Option.some.inj H; go_wp2; go_ret; exact ⟨fe, bp HB.out⟩
/-! ### impl_keysFrom: function 79 -/
def impl_keysFrom.f : Nat → Int → Option (Int)
  | 0, _ => none
  | k + 1, a0 => if a0 ≥ 4 then (some 1) else ((impl_keysFrom.f k (wrap64 (a0 + 1))).bind fun t263 => (some (wrap64 (1 + (wrap64 (26 * t263))))))
theorem impl_keysFrom.mono_l : ∀ k, (∀ y0, LeO (impl_keysFrom.f k y0) (impl_keysFrom.f (k + 1) y0))
  | 0 => fun _ r h => by simp [impl_keysFrom.f] at h
  | k + 1 => by
    have ih0 := impl_keysFrom.mono_l k
    · intro y0
      unfold impl_keysFrom.f
      repeat' with_reducible first | exact ih0 _ | exact LeO.refl _ | exact LeO.none _ | refine LeO.ite ?_ ?_ | refine LeO.bind ?_ (fun _ => ?_)
theorem impl_keysFrom.mono : ∀ a0 k, LeO (impl_keysFrom.f k a0) (impl_keysFrom.f (k + 1) a0) := by
 intro a0 k; have ih0 := impl_keysFrom.mono_l k; exact ih0 a0
set_option maxHeartbeats 8000000 in
set_option maxRecDepth 100000 in
theorem impl_keysFrom.calls (k : Nat) : ∀ (a0 : Int) (r : Int) (w : World) (h : impl_keysFrom.f k a0 = some r),
    Calls Tryd.prog 79 #[.int .i64 a0] w fun e w' => e = .returned (.int .i64 r) ∧ Drawn0 w w' := by
 induction k using Nat.strongRecOn with
 | _ k ih =>
 intro a0 r w h
 cases k with
 | zero => exact absurd h (by simp [impl_keysFrom.f])
 | succ k =>
 simp only [impl_keysFrom.f] at h; have H : (if a0 ≥ 4 then (some 1) else ((impl_keysFrom.f k (wrap64 (a0 + 1))).bind fun t263 => (some (wrap64 (1 + (wrap64 (26 * t263))))))) = some r := h; clear h; by_cases c2 : a0 ≥ 4
 ·rw [if_pos c2] at H; have c2b0 : decide (4 ≤ a0) = true := decide_eq_true c2; clear c2; obtain rfl := Option.some.inj H; go_enter Tryd.func79, Tryd.ntmps79; go_wp2; go_ret; exact ⟨zfe, zdr⟩
 ·rw [if_neg c2] at H; have c2b0 : decide (4 ≤ a0) = false := decide_eq_false c2; clear c2; obtain ⟨t263, A3, H⟩ := zbd H; (try dsimp only at H); obtain rfl := Option.some.inj H; go_enter Tryd.func79, Tryd.ntmps79; (go_wp2_with (first | ((with_reducible refine gate_callee (f := 79) rfl ?_); refine goesL_ (some 7) rfl rfl Tryd.func79 (by kernel_rfl) rfl #[.int .i64 (wrap64 (a0 + 1))] rfl (by (try simp only [List.map_toArray, List.map_cons, List.map_nil]); first | done | rfl | (simp only [List.length_drop, List.length_take]; rfl)) ?_; (with_reducible refine (ih k (by omega) (wrap64 (a0 + 1)) t263 _ A3.out).mono ?_); rintro e w' ⟨rfl, ⟨nd, rfl⟩⟩; refine ⟨_, rfl, ?_⟩))); go_ret; exact ⟨zfe, zdr⟩
/-! ### impl_rankBelow: function 63 -/
def impl_rankBelow.f : Nat → ByteArray → Int → Option (Int)
  | 0, _, _ => none
  | k + 1, a0, a1 => if a0.toList = ([] : List UInt8) then (some 0) else (if 0 < (a0.size : Int) then ((impl_keysFrom.f k a1).bind fun t264 => (if 1 ≤ (a0.size : Int) then ((impl_rankBelow.f k (a0.extract 1 a0.size) (wrap64 (a1 + 1))).bind fun t265 => (some (wrap64 ((wrap64 (1 + (wrap64 ((((bt a0 0) - 97) % 256) * t264)))) + t265)))) else (none))) else (none))
theorem impl_rankBelow.mono_l : ∀ k, (∀ y0 y1, LeO (impl_rankBelow.f k y0 y1) (impl_rankBelow.f (k + 1) y0 y1))
  | 0 => fun _ _ r h => by simp [impl_rankBelow.f] at h
  | k + 1 => by
    have ih0 := impl_rankBelow.mono_l k
    · intro y0 y1
      unfold impl_rankBelow.f
      repeat' with_reducible first | exact ih0 _ _ | exact impl_keysFrom.mono .. | exact LeO.refl _ | exact LeO.none _ | refine LeO.ite ?_ ?_ | refine LeO.bind ?_ (fun _ => ?_)
theorem impl_rankBelow.mono : ∀ a0 a1 k, LeO (impl_rankBelow.f k a0 a1) (impl_rankBelow.f (k + 1) a0 a1) := by
 intro a0 a1 k; have ih0 := impl_rankBelow.mono_l k; exact ih0 a0 a1
def impl_rankBelow.T3 : Bool × List (List Nat × List Nat) := (true, [([], []), ([0], [0]), ([1], [1]), ([2], [2]), ([], []), ([4], [4]), ([3, 5], [3, 5]), ([6], [6]), ([], []), ([8], [8]), ([], []), ([10], [10]), ([9, 11, 5], [9, 11]), ([7, 12], [7, 12]), ([13, 12, 0, 1, 2, 3, 4, 5, 6, 7, 8, 9, 10, 11, 12, 13], [13])])
def impl_rankBelow.B3 : List Nat := [0, 1, 3, 7, 0, 16, 63, 127, 0, 256, 0, 1024, 3888, 8191, 16383]
theorem impl_rankBelow.tab3 : rtab .any (opsOf Tryd.f63 3) = impl_rankBelow.T3 := by kernel_rfl
theorem impl_rankBelow.bits3 : waitsOk impl_rankBelow.T3.2 impl_rankBelow.B3 = true := by kernel_rfl
def q63m0 : Array Bool := Array.replicate 15 false
def q63m1 : Array Bool := mkB 15 1
def q63m2 : Array Bool := mkB 15 17
def q63m3 : Array Bool := mkB 15 273
def q63m4 : Array Bool := mkB 15 785
def q63m5 : Array Bool := mkB 15 1809
def q63m6 : Array Bool := mkB 15 3857
def q63m7 : Array Bool := mkB 15 3859
def q63m8 : Array Bool := mkB 15 3863
def q63m9 : Array Bool := mkB 15 3871
def q63m10 : Array Bool := mkB 15 3903
def q63m11 : Array Bool := mkB 15 3967
def q63m12 : Array Bool := mkB 15 4095
def q63m13 : Array Bool := mkB 15 8191
def q63m14 : Array Bool := mkB 15 16383
def q63m15 : Array Bool := mkB 15 32767
set_option maxHeartbeats 8000000 in
set_option maxRecDepth 100000 in
theorem impl_rankBelow.calls (k : Nat) : ∀ (a0 : ByteArray) (a1 : Int) (r : Int) (w : World) (h : impl_rankBelow.f k a0 a1 = some r),
    Calls Tryd.prog 63 #[.string a0, .int .i64 a1] w fun e w' => e = .returned (.int .i64 r) ∧ Below w.heap.size w w' := by
 induction k using Nat.strongRecOn with
 | _ k ih =>
 intro a0 a1 r w h
 cases k with
 | zero => exact absurd h (by simp [impl_rankBelow.f])
 | succ k =>
 simp only [impl_rankBelow.f] at h; have HB := Aside0.mk (Below.refl w.heap.size w); have H : (if a0.toList = ([] : List UInt8) then (some 0) else (if 0 < (a0.size : Int) then ((impl_keysFrom.f k a1).bind fun t264 => (if 1 ≤ (a0.size : Int) then ((impl_rankBelow.f k (a0.extract 1 a0.size) (wrap64 (a1 + 1))).bind fun t265 => (some (wrap64 ((wrap64 (1 + (wrap64 ((((bt a0 0) - 97) % 256) * t264)))) + t265)))) else (none))) else (none))) = some r := h; clear h; by_cases c3 : a0.toList = ([] : List UInt8)
 ·rw [if_pos c3] at H; have c3b0 : (a0.toList == ([] : List UInt8)) = true := beq_iff_eq.mpr c3; have c3b1 : (a0.toList != ([] : List UInt8)) = false := bne_eq_false_iff_eq.mpr c3; clear c3; obtain rfl := Option.some.inj H; go_enter Tryd.func63, Tryd.ntmps63; go_wp2; go_ret; exact ⟨fe, bp HB.out⟩
 ·rw [if_neg c3] at H; have c3b0 : (a0.toList == ([] : List UInt8)) = false := beq_eq_false_iff_ne.mpr c3; have c3b1 : (a0.toList != ([] : List UInt8)) = true := bne_iff_ne.mpr c3; by_cases c4 : 0 < (a0.size : Int)
  ·rw [if_pos c4] at H; have c4b0 : decide (0 < (a0.size : Int)) = true := decide_eq_true c4; (have c4b1 : decide (0 < a0.size) = true := decide_eq_true (by omega)); clear c4; obtain ⟨t264, A6, H⟩ := zbd H; (try dsimp only at H); by_cases c7 : 1 ≤ (a0.size : Int)
   ·rw [if_pos c7] at H; have c7b0 := eq_true c7; have c7b1 : decide (1 ≤ (a0.size : Int)) = true := decide_eq_true c7; clear c7; obtain ⟨t265, A8, H⟩ := zbd H; (try dsimp only at H); obtain rfl := Option.some.inj H; go_enter Tryd.func63, Tryd.ntmps63; (try go_wp2); have n0_ := Aside0.mk (below_drew1 HB.out); clear HB; have HB := n0_; clear n0_; (have p5 : 0 ≤ (0 : Int) := (by omega)); (have q5 : 0 < a0.size := (by have : (0 : Int) < (a0.size : Int) := zda; omega)); have hx5 : ∀ h : 0 < a0.size, ((a0[0]'h).toNat : Int) = bt a0 0 := bt_at a0 0; clear p5; have qi5 : (0 < (a0.size : Int)) = True := eq_true (zda); replace q5 := eq_true q5; (refine start_ (n := 15) (S := fun w' => True) (ds := []) q63m0 (by kernel_rfl) rfl rfl trivial (fun hHeld => ?_); refine with_tabW impl_rankBelow.tab3 impl_rankBelow.bits3 (fun HT_ HW_ => ?_)); generalize w.drew = w9 at HB hHeld ⊢; refine zp 0 7 q63m1 HT_.out ?_; refine zp 4 11 q63m2 HT_.out ?_; refine zp 8 15 q63m3 HT_.out ?_; refine zp 9 16 q63m4 HT_.out ?_; refine zp 10 17 q63m5 HT_.out ?_; refine zp 11 18 q63m6 HT_.out ?_; (refine take_ (i := 1) (N := some 8) (v := ?_) (a' := ?_) q63m7 rfl rfl (take_ofW HT_.out HW_.out (by kernel_rfl)) (fun _ _ _ h => h) (Or.inl ⟨by rfl, ?_⟩) hHeld ?_ ?_); rotate_left
    ·intro w' _; go_simp; with_reducible rfl
    (rotate_left; focus (simp only [Act.put, List.setIfInBounds_toArray, List.set_cons_zero, List.set_cons_succ, i64_w, i32_w]; rfl)); refine zp 2 9 q63m8 HT_.out ?_; refine zp 3 10 q63m9 HT_.out ?_; refine ones (i := 5) (N := some 12) q63m10 rfl rfl HT_.out (fun K hK => ?_); refine gos Tryd.func79 #[.int .i64 a1] rfl ?_; (with_reducible refine (impl_keysFrom.calls k a1 t264 _ A6.out).mono ?_); rintro e w' ⟨rfl, ⟨nd, rfl⟩⟩; refine ⟨_, rfl, ?_⟩; refine hK.out _ _ trivial (fun hHeld => ?_); clear hK K; refine norm_ (a' := ?_) ?_ ?_; rotate_left
    ·show Act.put _ (some 12) _ = _; simp only [Act.put, List.setIfInBounds_toArray, List.set_cons_zero, List.set_cons_succ, i64_w, i32_w]; rfl
    refine zp 6 13 q63m11 HT_.out ?_; refine zp 7 14 q63m12 HT_.out ?_; refine ones (i := 12) (N := some 19) q63m13 rfl rfl HT_.out (fun K hK => ?_); refine gos Tryd.func63 #[.string (a0.extract 1 a0.size), .int .i64 (wrap64 (a1 + 1))] rfl ?_; (with_reducible refine (ih k (by omega) (a0.extract 1 a0.size) (wrap64 (a1 + 1)) t265 _ A8.out).mono ?_); rintro e w10 ⟨rfl, hb⟩; refine ⟨_, rfl, ?_⟩; have n0_ := an0 HB hb; clear HB; have HB := n0_; clear n0_; (try clear hb); (try clear hb2); (try clear hk); (try clear hi); (try clear hgw); refine hK.out _ _ trivial (fun hHeld => ?_); clear hK K; refine norm_ (a' := ?_) ?_ ?_; rotate_left
    ·show Act.put _ (some 19) _ = _; simp only [Act.put, List.setIfInBounds_toArray, List.set_cons_zero, List.set_cons_succ, i64_w, i32_w]; rfl
    refine zp 13 20 q63m14 HT_.out ?_; refine zp 14 4 q63m15 HT_.out ?_; (refine done_ (done_of HT_.out (by kernel_rfl)) ?_); (try go_wp2); go_ret; exact ⟨fe, bp HB.out⟩
   ·rw [if_neg c7] at H; exact absurd H (by simp)
  ·rw [if_neg c4] at H; exact absurd H (by simp)
/-! ### impl_KeyRank: function 36 -/
def impl_KeyRank.f (k : Nat) (a0 : ByteArray) : Option (Int) := (impl_KeyValid.f k a0).bind fun t266 => (if t266 = true then ((impl_rankBelow.f k a0 1).bind fun t267 => (some (wrap64 (t267 - 1)))) else (some (-1)))
theorem impl_KeyRank.mono : ∀ a0 k, LeO (impl_KeyRank.f k a0) (impl_KeyRank.f (k + 1) a0) := by
 intro a0 k; unfold impl_KeyRank.f; repeat' with_reducible first | exact impl_KeyValid.mono .. | exact impl_rankBelow.mono .. | exact LeO.refl _ | exact LeO.none _ | refine LeO.ite ?_ ?_ | refine LeO.bind ?_ (fun _ => ?_)
set_option maxHeartbeats 8000000 in
set_option maxRecDepth 100000 in
theorem impl_KeyRank.calls (k : Nat) (a0 : ByteArray) (r : Int) (w : World) (h : impl_KeyRank.f k a0 = some r) :
    Calls Tryd.prog 36 #[.string a0] w fun e w' => e = .returned (.int .i64 r) ∧ Below w.heap.size w w' := by
 have HB := Aside0.mk (Below.refl w.heap.size w); unfold impl_KeyRank.f at h; have H := h; clear h; obtain ⟨t266, A2, H⟩ := zbd H; (try dsimp only at H); have HC3 := Aside0.mk H; clear H; go_enter Tryd.func36, Tryd.ntmps36; (go_upto_if 5 with (first | ((with_reducible refine gate_callee (f := 34) rfl ?_); refine goesL_ (some 4) rfl rfl Tryd.func34 (by kernel_rfl) rfl #[.string a0] rfl (by (try simp only [List.map_toArray, List.map_cons, List.map_nil]); first | done | rfl | (simp only [List.length_drop, List.length_take]; rfl)) ?_; (with_reducible refine (impl_KeyValid.calls k a0 t266 _ A2.out).mono ?_); rintro e w' ⟨rfl, ⟨nd, rfl⟩⟩; refine ⟨_, rfl, ?_⟩))); (try simp only [Act.put, List.setIfInBounds_toArray, List.set_cons_zero, List.set_cons_succ]); have H := HC3.out; clear HC3; by_cases c4 : t266 = true
 ·subst c4; rw [if_pos rfl] at H; obtain ⟨t267, A5, H⟩ := zbd H; (try dsimp only at H); obtain rfl := Option.some.inj H; (go_wp2_with (first | ((with_reducible refine gate_callee (f := 63) rfl ?_); refine goesL_ (some 7) rfl rfl Tryd.func63 (by kernel_rfl) rfl #[.string a0, .int .i64 1] rfl (by (try simp only [List.map_toArray, List.map_cons, List.map_nil]); first | done | rfl | (simp only [List.length_drop, List.length_take]; rfl)) ?_; (with_reducible refine (impl_rankBelow.calls k a0 1 t267 _ A5.out).mono ?_); rintro e w6 ⟨rfl, hb⟩; refine ⟨_, rfl, ?_⟩; replace HB := an0 HB hb; (try clear hb); (try clear hb2); (try clear hk); (try clear hi); (try clear hgw)))); go_ret; exact ⟨fe, bp HB.out⟩
 ·replace c4 := Bool.eq_false_iff.mpr c4; subst c4; rw [if_neg zft] at H; obtain rfl := Option.some.inj H; go_wp2; go_ret; exact ⟨fe, bp HB.out⟩
end Go.Proofs.YtagknifdfpjlbaaDoor.PFnPairsText
