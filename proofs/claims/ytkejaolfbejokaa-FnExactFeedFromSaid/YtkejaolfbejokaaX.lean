/- Laws that the printed walks lack: comparisons of strings the other way round, and tests for the empty string. No condition. -/
import Derived.Laws.Entries
import Derived.Tactics
namespace Go.Proofs.YtkejaolfbejokaaW.PrintMore
open Go
theorem less_total : ∀ x y : List UInt8, (Op.bytesLess x y || x == y) = !Op.bytesLess y x
  | [], [] => by simp [Op.bytesLess]
  | [], b :: y => by simp [Op.bytesLess]
  | a :: x, [] => by simp [Op.bytesLess]
  | a :: x, b :: y => by
    have ih := less_total x y
    simp only [Op.bytesLess]
    by_cases h : a = b
    · subst h
      have hn : ¬ a < a := UInt8.lt_irrefl a
      simp only [hn, decide_false, Bool.false_or, beq_self_eq_true, Bool.true_and]
      rw [← ih]
      simp
    · have h1 : (a == b) = false := by simpa using h
      have h2 : (b == a) = false := by simpa using fun e : b = a => h e.symm
      have h3 : (a :: x == b :: y) = false := by simp [h]
      rw [h1, h2, h3]
      simp only [Bool.false_and, Bool.or_false]
      have h4 : a < b ↔ ¬ b < a := by
        rw [UInt8.lt_iff_toNat_lt, UInt8.lt_iff_toNat_lt]
        have : a.toNat ≠ b.toNat := fun e => h (UInt8.toNat_inj.1 e)
        omega
      by_cases h5 : b < a
      · have : ¬ a < b := fun e => h4.1 e h5
        simp [h5, this]
      · simp [h5, h4.2 h5]
theorem binOp_leq_str (t : TypeId) (a b : ByteArray) : binOp .leq t (.string a) (.string b) = pure (.bool (!(Op.bytesLess b.toList a.toList))) := by
  rw [← less_total]
  simp [binOp, Op.stringOp]
theorem binOp_gtr_str (t : TypeId) (a b : ByteArray) : binOp .gtr t (.string a) (.string b) = pure (.bool (Op.bytesLess b.toList a.toList)) := by
  have h := less_total a.toList b.toList
  have e : (!(Op.bytesLess a.toList b.toList || a.toList == b.toList)) = Op.bytesLess b.toList a.toList := by rw [h]; simp
  rw [← e]
  simp [binOp, Op.stringOp]
theorem binOp_geq_str (t : TypeId) (a b : ByteArray) : binOp .geq t (.string a) (.string b) = pure (.bool (!(Op.bytesLess a.toList b.toList))) := by simp [binOp, Op.stringOp]
theorem bne_nil_ (l : List UInt8) : (l != []) = !l.isEmpty := by cases l <;> rfl
theorem beq_nil_ (l : List UInt8) : (l == []) = l.isEmpty := by cases l <;> rfl
end Go.Proofs.YtkejaolfbejokaaW.PrintMore
