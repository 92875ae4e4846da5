/- What returns, and what holds of what it returns. No condition. -/
import Derived.Test.YtlffjoabajdfnaaGreatPuB
set_option linter.unusedVariables false
set_option linter.unusedSimpArgs false
namespace Go.Proofs.YtlffjoabajdfnaaGreat.Ev
open Go.Proofs.YtlffjoabajdfnaaGreat.Eng
open Go.RowKit (wrap64)
/-! ### Returning -/
def Tot {β : Type} (o : Option β) (Q : β → Prop) : Prop := ∃ x, o = some x ∧ Q x
theorem Tot.bind {α β : Type} {o : Option α} {Q : α → Prop} {f : α → Option β} {R : β → Prop} (h : Tot o Q) (k : ∀ x, Q x → Tot (f x) R) : Tot (o.bind f) R := by
  obtain ⟨x, rfl, hx⟩ := h; exact k x hx
theorem Tot.val {β : Type} {x : β} {Q : β → Prop} (h : Q x) : Tot (some x) Q := ⟨x, rfl, h⟩
theorem Tot.of {β : Type} {o : Option β} {x : β} {Q : β → Prop} (e : o = some x) (h : Q x) : Tot o Q := ⟨x, e, h⟩
theorem Tot.ite {β : Type} {p : Prop} [Decidable p] {a b : Option β} {Q : β → Prop} (h1 : p → Tot a Q) (h2 : ¬ p → Tot b Q) : Tot (if p then a else b) Q := by
  by_cases h : p
  · rw [if_pos h]; exact h1 h
  · rw [if_neg h]; exact h2 h
theorem Tot.chk {β : Type} {p : Prop} [Decidable p] {a : Option β} {Q : β → Prop} (hp : p) (h : Tot a Q) : Tot (if p then a else none) Q := by rw [if_pos hp]; exact h
theorem Tot.bif {β : Type} {c : Bool} {a b : Option β} {Q : β → Prop} (h1 : c = true → Tot a Q) (h2 : c = false → Tot b Q) : Tot (bif c then a else b) Q := by
  cases c with
  | true => exact h1 rfl
  | false => exact h2 rfl
theorem Tot.ok {β : Type} {c : Bool} {a : Option β} {Q : β → Prop} (hc : c = true) (h : Tot a Q) : Tot (bif c then a else none) Q := by rw [hc]; exact h
theorem Tot.mono {β : Type} {o : Option β} {Q R : β → Prop} (h : Tot o Q) (k : ∀ x, Q x → R x) : Tot o R := by
  obtain ⟨x, e, hx⟩ := h; exact ⟨x, e, k x hx⟩
end Go.Proofs.YtlffjoabajdfnaaGreat.Ev
