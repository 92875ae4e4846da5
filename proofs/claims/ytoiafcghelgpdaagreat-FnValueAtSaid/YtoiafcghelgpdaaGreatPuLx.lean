/- The laws' own functions: sizes, turns into the program's types, comparisons. Printed by genlaws.py. No condition. -/
import Derived.Test.YtoiafcghelgpdaaGreatPuCh
set_option linter.unusedVariables false
set_option linter.unusedSimpArgs false
namespace Go.Proofs.YtoiafcghelgpdaaGreat.Ev
open Go.Proofs.YtoiafcghelgpdaaGreat.Eng
open Go.RowKit (wrap64)

/-- A list is short, and so is what its elements hold. -/
def SmL {α : Type} (P : α → Prop) (xs : List α) : Prop := xs.length ≤ 1048576 ∧ ∀ x ∈ xs, P x
theorem SmL.map {α β : Type} {P : α → Prop} {Q : β → Prop} {f : α → β} {xs : List α} (h : SmL P xs) (hf : ∀ x, P x → Q (f x)) : SmL Q (xs.map f) :=
  ⟨by rw [List.length_map]; exact h.1, fun y hy => by obtain ⟨x, hx, rfl⟩ := List.mem_map.1 hy; exact hf x (h.2 x hx)⟩
theorem beqB_self' (b : Bool) : beqB b b = true := by cases b <;> rfl
theorem map_id_ {α : Type} (xs : List α) : xs.map (id : α → α) = xs := List.map_id xs
theorem eta_impl_Command (x : impl_Command) : impl_Command.mk x.Kind x.Key x.Value x.Old = x := rfl
theorem eta_impl_Entry (x : impl_Entry) : impl_Entry.mk x.Client x.Seq x.Cmd = x := rfl
theorem eta_impl_Answer (x : impl_Answer) : impl_Answer.mk x.Asked x.Reply = x := rfl
theorem eta_impl_Interval (x : impl_Interval) : impl_Interval.mk x.Low x.High = x := rfl
theorem eta_impl_Pair (x : impl_Pair) : impl_Pair.mk x.Key x.Value = x := rfl
theorem eta_impl_Session (x : impl_Session) : impl_Session.mk x.Client x.Seq x.Reply = x := rfl
def Sm_impl_State (x : impl_State) : Prop := (SmL (fun _ => True)) x.Pairs ∧ (SmL (fun _ => True)) x.Known ∧ True
theorem eta_impl_State (x : impl_State) : impl_State.mk x.Span x.Pairs x.Known x.Sealed x.Cut = x := rfl
def Sm_impl_Config (x : impl_Config) : Prop := (SmL (fun _ => True)) x.Members ∧ True
theorem eta_impl_Config (x : impl_Config) : impl_Config.mk x.Epoch x.Members x.Fresh = x := rfl
def Sm_impl_Replica (x : impl_Replica) : Prop := Sm_impl_Config x.Conf ∧ (SmL (fun _ => True)) x.Log ∧ True
theorem eta_impl_Replica (x : impl_Replica) : impl_Replica.mk x.Conf x.Ready x.Log = x := rfl
def Sm_impl_Message (x : impl_Message) : Prop := Sm_impl_Config x.Conf ∧ (SmL (fun _ => True)) x.Log ∧ True
theorem eta_impl_Message (x : impl_Message) : impl_Message.mk x.Kind x.To x.Epoch x.Conf x.Log = x := rfl
def Sm_impl_Chain (x : impl_Chain) : Prop := Sm_impl_State x.Base ∧ Sm_impl_Config x.Conf ∧ (SmL Sm_impl_Replica) x.Nodes ∧ (SmL (fun _ => True)) x.Up ∧ (SmL Sm_impl_Message) x.Bag ∧ (SmL (fun _ => True)) x.Answers ∧ True
theorem eta_impl_Chain (x : impl_Chain) : impl_Chain.mk x.Base x.Conf x.Nodes x.Up x.Bag x.Answers = x := rfl
end Go.Proofs.YtoiafcghelgpdaaGreat.Ev
