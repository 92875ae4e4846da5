/- Laws that the printed walks lack: comparisons of strings the other way round, and tests for the empty string. No condition. -/
import Derived.Laws.Entries
import Derived.Tactics
import Derived.Test.YtfeeifefmenlmaaWWords
import Derived.Test.YtfeeifefmenlmaaWLast
import Derived.Test.YtfeeifefmenlmaaWTab
import Derived.KernelRfl
set_option linter.unusedVariables false
namespace Go.Proofs.YtfeeifefmenlmaaW.PrintMore
open Go
theorem less_total : ∀ x y : List UInt8, (Op.bytesLess x y || x == y) = !Op.bytesLess y x
  | [], [] => by simp [Op.bytesLess]
  | [], b :: y => by simp [Op.bytesLess]
  | a :: x, [] => by simp [Op.bytesLess]
  | a :: x, b :: y => by
    have ih := less_total x y
    simp only [Op.bytesLess]
    by_cases h : a = b
    · subst h
      have hn : ¬ a < a := UInt8.lt_irrefl a
      simp only [hn, decide_false, Bool.false_or, beq_self_eq_true, Bool.true_and]
      rw [← ih]
      simp
    · have h1 : (a == b) = false := by simpa using h
      have h2 : (b == a) = false := by simpa using fun e : b = a => h e.symm
      have h3 : (a :: x == b :: y) = false := by simp [h]
      rw [h1, h2, h3]
      simp only [Bool.false_and, Bool.or_false]
      have h4 : a < b ↔ ¬ b < a := by
        rw [UInt8.lt_iff_toNat_lt, UInt8.lt_iff_toNat_lt]
        have : a.toNat ≠ b.toNat := fun e => h (UInt8.toNat_inj.1 e)
        omega
      by_cases h5 : b < a
      · have : ¬ a < b := fun e => h4.1 e h5
        simp [h5, this]
      · simp [h5, h4.2 h5]
theorem binOp_leq_str (t : TypeId) (a b : ByteArray) : binOp .leq t (.string a) (.string b) = pure (.bool (!(Op.bytesLess b.toList a.toList))) := by
  rw [← less_total]
  simp [binOp, Op.stringOp]
theorem binOp_gtr_str (t : TypeId) (a b : ByteArray) : binOp .gtr t (.string a) (.string b) = pure (.bool (Op.bytesLess b.toList a.toList)) := by
  have h := less_total a.toList b.toList
  have e : (!(Op.bytesLess a.toList b.toList || a.toList == b.toList)) = Op.bytesLess b.toList a.toList := by rw [h]; simp
  rw [← e]
  simp [binOp, Op.stringOp]
theorem binOp_geq_str (t : TypeId) (a b : ByteArray) : binOp .geq t (.string a) (.string b) = pure (.bool (!(Op.bytesLess a.toList b.toList))) := by simp [binOp, Op.stringOp]
theorem bne_nil_ (l : List UInt8) : (l != []) = !l.isEmpty := by cases l <;> rfl
theorem beq_nil_ (l : List UInt8) : (l == []) = l.isEmpty := by cases l <;> rfl
end Go.Proofs.YtfeeifefmenlmaaW.PrintMore
/-! Often-used steps of the printed walks under short names: their premises' proofs stand here once. -/
namespace Go.Proofs.YtfeeifefmenlmaaW.PrintMore
open Go Go.RowKit Go.Proofs.YtfeeifefmenlmaaW.PrintWords Go.Proofs.YtfeeifefmenlmaaW.PrintLast
theorem bp {P Q : Prop} (B : P) (h : P → Q := by (intro hb_; repeat (first | (with_reducible first | exact hb_ | apply below_alloc | apply pw_below_drewN | apply below_drew1 | refine below_set ?_ (Aside0.out (by assumption))) | exact hb_))) : Q := h B
theorem kb {P Q : Prop} (B : P) (h : P → Q := by (intro hb_; (with_reducible repeat (first | refine blk_drewN ?_ _ | refine blk_drew ?_ | refine blk_alloc ?_ _)); exact hb_)) : Q := h B
theorem kr {P Q : Prop} (B : P) (h : P → Q := by (intro hb_; (with_reducible repeat (first | apply Kd.R_alloc | apply Kd.R_drewN | apply Kd.R_drew)); exact hb_)) : Q := h B
theorem cc {P Q : Prop} (B : P) (h : P → Q := by (intro hb_; repeat (first | exact hb_ | (with_reducible refine Kd.C_alloc ?_ _) | (with_reducible refine Kd.C_drewN ?_ _) | (with_reducible refine Kd.C_drew ?_)))) : Q := h B
theorem fe {P : Prop} (h : P := by (first | rfl | (simp [errW_none, errW_some] <;> rfl) | (simp [*, errW_none, errW_some] <;> rfl) | (simp only [IntKind.wrap_u8, show ∀ n_ : Int, wrap64 (n_ % 256) = n_ % 256 from fun n_ => by unfold wrap64; omega]; rfl))) : P := h
section
variable {w W W1 w2 : World} {g g2 : Nat} {o : Obj}
theorem an0 (B : Aside0 (Below w.heap.size w W)) (hb : Below W1.heap.size W1 w2) (h : Below w.heap.size w W → Below w.heap.size w W1 := by exact fun hb_ => bp hb_) : Aside0 (Below w.heap.size w w2) := ⟨below_step (h B.out) hb⟩
theorem an1 (B : Aside0 (W.heap[g]? = some o)) (hb : Below W1.heap.size W1 w2) (h : W.heap[g]? = some o → W1.heap[g]? = some o := by exact fun hb_ => kb hb_) : Aside0 (w2.heap[g]? = some o) := ⟨blk_below (h B.out) hb⟩
theorem an2 (B : Aside0 (Below w.heap.size w W)) (hg : g = W1.heap.size) (h : Below w.heap.size w W → Below w.heap.size w W1 := by exact fun hb_ => bp hb_) : Aside0 (w.heap.size ≤ g) := ⟨by rw [hg]; exact below_size (h B.out)⟩
theorem an3 (B : Aside0 (W.heap[g]? = some o)) (hg : g2 = W1.heap.size) (h : W.heap[g]? = some o → W1.heap[g]? = some o := by exact fun hb_ => kb hb_) : Aside0 (g ≠ g2) := ⟨by rw [hg]; exact Nat.ne_of_lt (blk_lt (h B.out))⟩
theorem an4 (B : Aside0 (W.heap[g]? = some o)) (hg : g2 = W1.heap.size) (h : W.heap[g]? = some o → W1.heap[g]? = some o := by exact fun hb_ => kb hb_) : Aside0 (g2 ≠ g) := ⟨by rw [hg]; exact Nat.ne_of_gt (blk_lt (h B.out))⟩
end
section
variable {P : Program} {ops : Array Oper} {rest : List Oper} {o : Oper} {a : Act} {Q : Exit → Act → World → Prop}
theorem bxe {W : World} {N : Tmp} {cs : Array Value} {t : TypeId}
    (h : ∀ g, g = W.heap.size → ∀ w1, w1.heap[g]? = some (.cells cs t (0, 0)) → Below W.heap.size W w1 → wpList P ops Q rest (a.put o.dst (.pointer (some ⟨g, 0, none⟩))) w1)
    (hd : o.dst = some N := by rfl) (hgd : o.guard = none := by rfl)
    (hrun : (execOp a.eval o).run P W = .ok (.value (.pointer (some ⟨W.heap.size, 0, none⟩))) (W.alloc (.cells cs t (0, 0))) := by (first | (go_simp; done) | (go_simp; rfl))) : wpList P ops Q (o :: rest) a W := box_event hgd hd hrun h
theorem gsl {oi : Oper} {w : World} (N : Option Tmp) (hd : oi.dst = N) {f : FuncId} {fn : Func} {as : Array Operand} {ts : Array TypeId} (hf : P.funcs[f]? = some fn) (args : Array Value)
    (hop : oi.op = .call { callee := .value (.func f), args := as, argTypes := ts })
    (h : Calls P f args w fun e w' => ∃ v, e = .returned v ∧ wpList P ops Q rest (a.put N v) w')
    (hg : oi.guard = none := by rfl) (hname : (fn.name == "runtime.NumGoroutine") = false := by kernel_rfl) (hb : fn.body.isSome = true := by rfl)
    (hargs : as.map a.eval = args := by ((try simp only [List.map_toArray, List.map_cons, List.map_nil]); first | done | rfl | (simp only [List.length_drop, List.length_take]; rfl))) : wpList P ops Q (oi :: rest) a w := goesL_ N hd hg hf hname hb args hop hargs h
end
section
variable {w : World} {g : Nat} {t : TypeId}
theorem cl1 {v0 : Value} (B : Aside0 (w.heap[g]? = some (.cells #[v0] t (0, 0)))) : w.cell? ⟨g, 0, none⟩ = some v0 ∧ w.frozen? ⟨g, 0, none⟩ = false := ⟨(blk_cell B.out 0).trans rfl, blk_frozen B.out 0⟩
theorem cl2 {v0 v1 : Value} (B : Aside0 (w.heap[g]? = some (.cells #[v0, v1] t (0, 0)))) : w.cell? ⟨g, 0, none⟩ = some v0 ∧ w.cell? ⟨g, 1, none⟩ = some v1 ∧ w.frozen? ⟨g, 0, none⟩ = false ∧ w.frozen? ⟨g, 1, none⟩ = false := ⟨(blk_cell B.out 0).trans rfl, (blk_cell B.out 1).trans rfl, blk_frozen B.out 0, blk_frozen B.out 1⟩
theorem cl3 {v0 v1 v2 : Value} (B : Aside0 (w.heap[g]? = some (.cells #[v0, v1, v2] t (0, 0)))) : w.cell? ⟨g, 0, none⟩ = some v0 ∧ w.cell? ⟨g, 1, none⟩ = some v1 ∧ w.cell? ⟨g, 2, none⟩ = some v2 ∧ w.frozen? ⟨g, 0, none⟩ = false ∧ w.frozen? ⟨g, 1, none⟩ = false ∧ w.frozen? ⟨g, 2, none⟩ = false := ⟨(blk_cell B.out 0).trans rfl, (blk_cell B.out 1).trans rfl, (blk_cell B.out 2).trans rfl, blk_frozen B.out 0, blk_frozen B.out 1, blk_frozen B.out 2⟩
theorem cl4 {v0 v1 v2 v3 : Value} (B : Aside0 (w.heap[g]? = some (.cells #[v0, v1, v2, v3] t (0, 0)))) : w.cell? ⟨g, 0, none⟩ = some v0 ∧ w.cell? ⟨g, 1, none⟩ = some v1 ∧ w.cell? ⟨g, 2, none⟩ = some v2 ∧ w.cell? ⟨g, 3, none⟩ = some v3 ∧ w.frozen? ⟨g, 0, none⟩ = false ∧ w.frozen? ⟨g, 1, none⟩ = false ∧ w.frozen? ⟨g, 2, none⟩ = false ∧ w.frozen? ⟨g, 3, none⟩ = false := ⟨(blk_cell B.out 0).trans rfl, (blk_cell B.out 1).trans rfl, (blk_cell B.out 2).trans rfl, (blk_cell B.out 3).trans rfl, blk_frozen B.out 0, blk_frozen B.out 1, blk_frozen B.out 2, blk_frozen B.out 3⟩
theorem cl5 {v0 v1 v2 v3 v4 : Value} (B : Aside0 (w.heap[g]? = some (.cells #[v0, v1, v2, v3, v4] t (0, 0)))) : w.cell? ⟨g, 0, none⟩ = some v0 ∧ w.cell? ⟨g, 1, none⟩ = some v1 ∧ w.cell? ⟨g, 2, none⟩ = some v2 ∧ w.cell? ⟨g, 3, none⟩ = some v3 ∧ w.cell? ⟨g, 4, none⟩ = some v4 ∧ w.frozen? ⟨g, 0, none⟩ = false ∧ w.frozen? ⟨g, 1, none⟩ = false ∧ w.frozen? ⟨g, 2, none⟩ = false ∧ w.frozen? ⟨g, 3, none⟩ = false ∧ w.frozen? ⟨g, 4, none⟩ = false := ⟨(blk_cell B.out 0).trans rfl, (blk_cell B.out 1).trans rfl, (blk_cell B.out 2).trans rfl, (blk_cell B.out 3).trans rfl, (blk_cell B.out 4).trans rfl, blk_frozen B.out 0, blk_frozen B.out 1, blk_frozen B.out 2, blk_frozen B.out 3, blk_frozen B.out 4⟩
theorem cl6 {v0 v1 v2 v3 v4 v5 : Value} (B : Aside0 (w.heap[g]? = some (.cells #[v0, v1, v2, v3, v4, v5] t (0, 0)))) : w.cell? ⟨g, 0, none⟩ = some v0 ∧ w.cell? ⟨g, 1, none⟩ = some v1 ∧ w.cell? ⟨g, 2, none⟩ = some v2 ∧ w.cell? ⟨g, 3, none⟩ = some v3 ∧ w.cell? ⟨g, 4, none⟩ = some v4 ∧ w.cell? ⟨g, 5, none⟩ = some v5 ∧ w.frozen? ⟨g, 0, none⟩ = false ∧ w.frozen? ⟨g, 1, none⟩ = false ∧ w.frozen? ⟨g, 2, none⟩ = false ∧ w.frozen? ⟨g, 3, none⟩ = false ∧ w.frozen? ⟨g, 4, none⟩ = false ∧ w.frozen? ⟨g, 5, none⟩ = false := ⟨(blk_cell B.out 0).trans rfl, (blk_cell B.out 1).trans rfl, (blk_cell B.out 2).trans rfl, (blk_cell B.out 3).trans rfl, (blk_cell B.out 4).trans rfl, (blk_cell B.out 5).trans rfl, blk_frozen B.out 0, blk_frozen B.out 1, blk_frozen B.out 2, blk_frozen B.out 3, blk_frozen B.out 4, blk_frozen B.out 5⟩
theorem cl7 {v0 v1 v2 v3 v4 v5 v6 : Value} (B : Aside0 (w.heap[g]? = some (.cells #[v0, v1, v2, v3, v4, v5, v6] t (0, 0)))) : w.cell? ⟨g, 0, none⟩ = some v0 ∧ w.cell? ⟨g, 1, none⟩ = some v1 ∧ w.cell? ⟨g, 2, none⟩ = some v2 ∧ w.cell? ⟨g, 3, none⟩ = some v3 ∧ w.cell? ⟨g, 4, none⟩ = some v4 ∧ w.cell? ⟨g, 5, none⟩ = some v5 ∧ w.cell? ⟨g, 6, none⟩ = some v6 ∧ w.frozen? ⟨g, 0, none⟩ = false ∧ w.frozen? ⟨g, 1, none⟩ = false ∧ w.frozen? ⟨g, 2, none⟩ = false ∧ w.frozen? ⟨g, 3, none⟩ = false ∧ w.frozen? ⟨g, 4, none⟩ = false ∧ w.frozen? ⟨g, 5, none⟩ = false ∧ w.frozen? ⟨g, 6, none⟩ = false := ⟨(blk_cell B.out 0).trans rfl, (blk_cell B.out 1).trans rfl, (blk_cell B.out 2).trans rfl, (blk_cell B.out 3).trans rfl, (blk_cell B.out 4).trans rfl, (blk_cell B.out 5).trans rfl, (blk_cell B.out 6).trans rfl, blk_frozen B.out 0, blk_frozen B.out 1, blk_frozen B.out 2, blk_frozen B.out 3, blk_frozen B.out 4, blk_frozen B.out 5, blk_frozen B.out 6⟩
theorem cl8 {v0 v1 v2 v3 v4 v5 v6 v7 : Value} (B : Aside0 (w.heap[g]? = some (.cells #[v0, v1, v2, v3, v4, v5, v6, v7] t (0, 0)))) : w.cell? ⟨g, 0, none⟩ = some v0 ∧ w.cell? ⟨g, 1, none⟩ = some v1 ∧ w.cell? ⟨g, 2, none⟩ = some v2 ∧ w.cell? ⟨g, 3, none⟩ = some v3 ∧ w.cell? ⟨g, 4, none⟩ = some v4 ∧ w.cell? ⟨g, 5, none⟩ = some v5 ∧ w.cell? ⟨g, 6, none⟩ = some v6 ∧ w.cell? ⟨g, 7, none⟩ = some v7 ∧ w.frozen? ⟨g, 0, none⟩ = false ∧ w.frozen? ⟨g, 1, none⟩ = false ∧ w.frozen? ⟨g, 2, none⟩ = false ∧ w.frozen? ⟨g, 3, none⟩ = false ∧ w.frozen? ⟨g, 4, none⟩ = false ∧ w.frozen? ⟨g, 5, none⟩ = false ∧ w.frozen? ⟨g, 6, none⟩ = false ∧ w.frozen? ⟨g, 7, none⟩ = false := ⟨(blk_cell B.out 0).trans rfl, (blk_cell B.out 1).trans rfl, (blk_cell B.out 2).trans rfl, (blk_cell B.out 3).trans rfl, (blk_cell B.out 4).trans rfl, (blk_cell B.out 5).trans rfl, (blk_cell B.out 6).trans rfl, (blk_cell B.out 7).trans rfl, blk_frozen B.out 0, blk_frozen B.out 1, blk_frozen B.out 2, blk_frozen B.out 3, blk_frozen B.out 4, blk_frozen B.out 5, blk_frozen B.out 6, blk_frozen B.out 7⟩
theorem cl9 {v0 v1 v2 v3 v4 v5 v6 v7 v8 : Value} (B : Aside0 (w.heap[g]? = some (.cells #[v0, v1, v2, v3, v4, v5, v6, v7, v8] t (0, 0)))) : w.cell? ⟨g, 0, none⟩ = some v0 ∧ w.cell? ⟨g, 1, none⟩ = some v1 ∧ w.cell? ⟨g, 2, none⟩ = some v2 ∧ w.cell? ⟨g, 3, none⟩ = some v3 ∧ w.cell? ⟨g, 4, none⟩ = some v4 ∧ w.cell? ⟨g, 5, none⟩ = some v5 ∧ w.cell? ⟨g, 6, none⟩ = some v6 ∧ w.cell? ⟨g, 7, none⟩ = some v7 ∧ w.cell? ⟨g, 8, none⟩ = some v8 ∧ w.frozen? ⟨g, 0, none⟩ = false ∧ w.frozen? ⟨g, 1, none⟩ = false ∧ w.frozen? ⟨g, 2, none⟩ = false ∧ w.frozen? ⟨g, 3, none⟩ = false ∧ w.frozen? ⟨g, 4, none⟩ = false ∧ w.frozen? ⟨g, 5, none⟩ = false ∧ w.frozen? ⟨g, 6, none⟩ = false ∧ w.frozen? ⟨g, 7, none⟩ = false ∧ w.frozen? ⟨g, 8, none⟩ = false := ⟨(blk_cell B.out 0).trans rfl, (blk_cell B.out 1).trans rfl, (blk_cell B.out 2).trans rfl, (blk_cell B.out 3).trans rfl, (blk_cell B.out 4).trans rfl, (blk_cell B.out 5).trans rfl, (blk_cell B.out 6).trans rfl, (blk_cell B.out 7).trans rfl, (blk_cell B.out 8).trans rfl, blk_frozen B.out 0, blk_frozen B.out 1, blk_frozen B.out 2, blk_frozen B.out 3, blk_frozen B.out 4, blk_frozen B.out 5, blk_frozen B.out 6, blk_frozen B.out 7, blk_frozen B.out 8⟩
theorem cl10 {v0 v1 v2 v3 v4 v5 v6 v7 v8 v9 : Value} (B : Aside0 (w.heap[g]? = some (.cells #[v0, v1, v2, v3, v4, v5, v6, v7, v8, v9] t (0, 0)))) : w.cell? ⟨g, 0, none⟩ = some v0 ∧ w.cell? ⟨g, 1, none⟩ = some v1 ∧ w.cell? ⟨g, 2, none⟩ = some v2 ∧ w.cell? ⟨g, 3, none⟩ = some v3 ∧ w.cell? ⟨g, 4, none⟩ = some v4 ∧ w.cell? ⟨g, 5, none⟩ = some v5 ∧ w.cell? ⟨g, 6, none⟩ = some v6 ∧ w.cell? ⟨g, 7, none⟩ = some v7 ∧ w.cell? ⟨g, 8, none⟩ = some v8 ∧ w.cell? ⟨g, 9, none⟩ = some v9 ∧ w.frozen? ⟨g, 0, none⟩ = false ∧ w.frozen? ⟨g, 1, none⟩ = false ∧ w.frozen? ⟨g, 2, none⟩ = false ∧ w.frozen? ⟨g, 3, none⟩ = false ∧ w.frozen? ⟨g, 4, none⟩ = false ∧ w.frozen? ⟨g, 5, none⟩ = false ∧ w.frozen? ⟨g, 6, none⟩ = false ∧ w.frozen? ⟨g, 7, none⟩ = false ∧ w.frozen? ⟨g, 8, none⟩ = false ∧ w.frozen? ⟨g, 9, none⟩ = false := ⟨(blk_cell B.out 0).trans rfl, (blk_cell B.out 1).trans rfl, (blk_cell B.out 2).trans rfl, (blk_cell B.out 3).trans rfl, (blk_cell B.out 4).trans rfl, (blk_cell B.out 5).trans rfl, (blk_cell B.out 6).trans rfl, (blk_cell B.out 7).trans rfl, (blk_cell B.out 8).trans rfl, (blk_cell B.out 9).trans rfl, blk_frozen B.out 0, blk_frozen B.out 1, blk_frozen B.out 2, blk_frozen B.out 3, blk_frozen B.out 4, blk_frozen B.out 5, blk_frozen B.out 6, blk_frozen B.out 7, blk_frozen B.out 8, blk_frozen B.out 9⟩
theorem cl11 {v0 v1 v2 v3 v4 v5 v6 v7 v8 v9 v10 : Value} (B : Aside0 (w.heap[g]? = some (.cells #[v0, v1, v2, v3, v4, v5, v6, v7, v8, v9, v10] t (0, 0)))) : w.cell? ⟨g, 0, none⟩ = some v0 ∧ w.cell? ⟨g, 1, none⟩ = some v1 ∧ w.cell? ⟨g, 2, none⟩ = some v2 ∧ w.cell? ⟨g, 3, none⟩ = some v3 ∧ w.cell? ⟨g, 4, none⟩ = some v4 ∧ w.cell? ⟨g, 5, none⟩ = some v5 ∧ w.cell? ⟨g, 6, none⟩ = some v6 ∧ w.cell? ⟨g, 7, none⟩ = some v7 ∧ w.cell? ⟨g, 8, none⟩ = some v8 ∧ w.cell? ⟨g, 9, none⟩ = some v9 ∧ w.cell? ⟨g, 10, none⟩ = some v10 ∧ w.frozen? ⟨g, 0, none⟩ = false ∧ w.frozen? ⟨g, 1, none⟩ = false ∧ w.frozen? ⟨g, 2, none⟩ = false ∧ w.frozen? ⟨g, 3, none⟩ = false ∧ w.frozen? ⟨g, 4, none⟩ = false ∧ w.frozen? ⟨g, 5, none⟩ = false ∧ w.frozen? ⟨g, 6, none⟩ = false ∧ w.frozen? ⟨g, 7, none⟩ = false ∧ w.frozen? ⟨g, 8, none⟩ = false ∧ w.frozen? ⟨g, 9, none⟩ = false ∧ w.frozen? ⟨g, 10, none⟩ = false := ⟨(blk_cell B.out 0).trans rfl, (blk_cell B.out 1).trans rfl, (blk_cell B.out 2).trans rfl, (blk_cell B.out 3).trans rfl, (blk_cell B.out 4).trans rfl, (blk_cell B.out 5).trans rfl, (blk_cell B.out 6).trans rfl, (blk_cell B.out 7).trans rfl, (blk_cell B.out 8).trans rfl, (blk_cell B.out 9).trans rfl, (blk_cell B.out 10).trans rfl, blk_frozen B.out 0, blk_frozen B.out 1, blk_frozen B.out 2, blk_frozen B.out 3, blk_frozen B.out 4, blk_frozen B.out 5, blk_frozen B.out 6, blk_frozen B.out 7, blk_frozen B.out 8, blk_frozen B.out 9, blk_frozen B.out 10⟩
theorem cl12 {v0 v1 v2 v3 v4 v5 v6 v7 v8 v9 v10 v11 : Value} (B : Aside0 (w.heap[g]? = some (.cells #[v0, v1, v2, v3, v4, v5, v6, v7, v8, v9, v10, v11] t (0, 0)))) : w.cell? ⟨g, 0, none⟩ = some v0 ∧ w.cell? ⟨g, 1, none⟩ = some v1 ∧ w.cell? ⟨g, 2, none⟩ = some v2 ∧ w.cell? ⟨g, 3, none⟩ = some v3 ∧ w.cell? ⟨g, 4, none⟩ = some v4 ∧ w.cell? ⟨g, 5, none⟩ = some v5 ∧ w.cell? ⟨g, 6, none⟩ = some v6 ∧ w.cell? ⟨g, 7, none⟩ = some v7 ∧ w.cell? ⟨g, 8, none⟩ = some v8 ∧ w.cell? ⟨g, 9, none⟩ = some v9 ∧ w.cell? ⟨g, 10, none⟩ = some v10 ∧ w.cell? ⟨g, 11, none⟩ = some v11 ∧ w.frozen? ⟨g, 0, none⟩ = false ∧ w.frozen? ⟨g, 1, none⟩ = false ∧ w.frozen? ⟨g, 2, none⟩ = false ∧ w.frozen? ⟨g, 3, none⟩ = false ∧ w.frozen? ⟨g, 4, none⟩ = false ∧ w.frozen? ⟨g, 5, none⟩ = false ∧ w.frozen? ⟨g, 6, none⟩ = false ∧ w.frozen? ⟨g, 7, none⟩ = false ∧ w.frozen? ⟨g, 8, none⟩ = false ∧ w.frozen? ⟨g, 9, none⟩ = false ∧ w.frozen? ⟨g, 10, none⟩ = false ∧ w.frozen? ⟨g, 11, none⟩ = false := ⟨(blk_cell B.out 0).trans rfl, (blk_cell B.out 1).trans rfl, (blk_cell B.out 2).trans rfl, (blk_cell B.out 3).trans rfl, (blk_cell B.out 4).trans rfl, (blk_cell B.out 5).trans rfl, (blk_cell B.out 6).trans rfl, (blk_cell B.out 7).trans rfl, (blk_cell B.out 8).trans rfl, (blk_cell B.out 9).trans rfl, (blk_cell B.out 10).trans rfl, (blk_cell B.out 11).trans rfl, blk_frozen B.out 0, blk_frozen B.out 1, blk_frozen B.out 2, blk_frozen B.out 3, blk_frozen B.out 4, blk_frozen B.out 5, blk_frozen B.out 6, blk_frozen B.out 7, blk_frozen B.out 8, blk_frozen B.out 9, blk_frozen B.out 10, blk_frozen B.out 11⟩
end
section
variable {P : Program} {ops : Array Oper} {Q : Exit → Act → World → Prop} {md : Region.Mode} {S : World → Prop} {ds : List Nat} {T : Bool × List (List Nat × List Nat)}
theorem pur {i : Nat} {N : Option Tmp} {oi : Oper} {v : Value} {fuel : Nat} {l : Array Bool} {a a' : Act} {w : World} (l' : Array Bool) (hi : ops[i]? = some oi) (hN : oi.dst = N) (hT : rtab md ops = T)
    (h : wpAnyLast P md ops Q S ds fuel l' a' w) (hc : anyT T l.toList l'.toList i = true := by kernel_rfl) (hw : Region.wanted oi (yielded ops a.tmps) = true := by rfl)
    (hy : ∀ w, (execOp a.eval oi).run P w = .ok (.value v) w := by (intro w'; go_simp; with_reducible rfl)) (ha : a.put N v = a' := by (simp only [Act.put, List.setIfInBounds_toArray, List.set_cons_zero, List.set_cons_succ, i64_w, i32_w]; rfl))
    (hQ : ∀ c a w, Q (.panic c) (a.put oi.dst v) w → Q (.panic c) a w := by exact fun _ _ _ h => h) : wpAnyLast P md ops Q S ds (fuel + 1) l a w := pure_ l' hi hN (any_of hT hc) hQ (Or.inl ⟨hw, hy⟩) ha h
theorem puo {i : Nat} {N : Option Tmp} {oi : Oper} {fuel : Nat} {l : Array Bool} {a a' : Act} {w : World} (l' : Array Bool) (hi : ops[i]? = some oi) (hN : oi.dst = N) (hT : rtab md ops = T)
    (h : wpAnyLast P md ops Q S ds fuel l' a' w) (hc : anyT T l.toList l'.toList i = true := by kernel_rfl) (hw : Region.wanted oi (yielded ops a.tmps) = false := by rfl)
    (ha : a.put N undef = a' := by (simp only [Act.put, List.setIfInBounds_toArray, List.set_cons_zero, List.set_cons_succ, i64_w, i32_w]; rfl))
    (hQ : ∀ c a w, Q (.panic c) (a.put oi.dst undef) w → Q (.panic c) a w := by exact fun _ _ _ h => h) : wpAnyLast P md ops Q S ds (fuel + 1) l a w := pure_ l' hi hN (any_of hT hc) hQ (Or.inr ⟨hw, rfl⟩) ha h
end
namespace Kd
section
variable {P : Program} {ops : Array Oper} {rest : List Oper} {o : Oper} {a : Act} {Q : Exit → Act → World → Prop} {α : Type}
/-- make([]T, 0, n) -/
theorem R_makec (d : Kd α) {w0 W : World} (base e : Nat) (hgd : o.guard = none) {N : Tmp} (hd : o.dst = some N) (t : TypeId) (x y : Operand) (ho : o.op = .makeSlice t x y) (n : Int) (hx : a.eval x = .int .i64 0) (hy : a.eval y = .int .i64 n)
    (ht : P.underlying t = some (.slice e)) (z : Value) (bytes : Nat) (hinfo : (P.info? e).map (fun i => (i.zero, i.size, i.bytes)) = some (some z, d.sz, bytes)) (hz : z.cells.size = d.sz) (hs0 : 0 < d.sz) (hb0 : 0 < bytes)
    (z0 : α) {ok okp : Nat → Prop} (hzero : d.M W base okp z0 z.cells.toList) (hok : ∀ k, okp k → ok k) (hfresh : ok W.heap.size) (h0 : 0 ≤ n) (hl : n.toNat * bytes ≤ 281474976710656) (HB : Below base w0 W) (hbase : base ≤ W.heap.size)
    (h : ∀ v1 w1, d.R e w1 base ok v1 [] → Below base w0 w1 → W.grownBy w1 none → (∃ b, v1.ownBlock = some b ∧ W.heap.size ≤ b) → wpList P ops Q rest (a.put o.dst v1) w1) : wpList P ops Q (o :: rest) a W := by
  obtain ⟨m, rfl⟩ := Int.eq_ofNat_of_zero_le h0
  simp only [Int.toNat_natCast] at hl
  obtain ⟨i0, hi, hzz⟩ := Option.map_eq_some_iff.1 hinfo
  simp only [Prod.mk.injEq] at hzz
  obtain ⟨hz0, hz1, hz2⟩ := hzz
  have hm : m ≤ 281474976710656 := Nat.le_trans (Nat.le_mul_of_pos_right _ hb0) hl
  have hr := run_make (P := P) W t e i0 z ht hi hz0 .i64 .i64 0 (m : Int) (by omega) (by omega)
    (by
      have h3 : ((i0.bytes * m : Nat) : Int) ≤ 281474976710656 := by rw [hz2, Nat.mul_comm]; omega
      rwa [Int.natCast_mul] at h3) (by omega)
  simp only [Int.toNat_natCast, Int.toNat_zero] at hr
  refine Kd.event_run hgd (v := .slice (some ⟨W.heap.size, 0, none⟩) 0 m) (by simp [execOp, ho, hx, hy, hr]; rfl) (h _ _ ⟨fun k hk => ?_, [], ?_, Reps.none _ _⟩ (HB.alloc hbase _) (World.grownBy_alloc W _ none) ⟨W.heap.size, by simp [Value.ownBlock], Nat.le_refl _⟩)
  · have : W.heap.size = k := by simpa [Value.ownBlock] using hk
    subst this
    exact hfresh
  · rw [hz1]
    exact World.ownsRow_made W _ m hbase (by simp [maxLen]; omega) (size_madeCells _ _)
end
end Kd
theorem hcx {w W : World} (B : Aside0 (Below w.heap.size w W)) {p : Addr} {v : Value} (h : w.cell? p = some v) : W.cell? p = some v := (B.out.cell (World.block_lt_of_cell? w _ h)).trans h
abbrev o_ : Bool := false
abbrev i_ : Bool := true
end Go.Proofs.YtfeeifefmenlmaaW.PrintMore
