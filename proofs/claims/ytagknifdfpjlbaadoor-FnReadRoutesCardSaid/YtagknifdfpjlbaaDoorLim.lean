/- The limit of a computation with rounds: what a function that takes a number of rounds comes to when the rounds are enough. No condition. -/
import Derived.RowKit
namespace Go.Proofs.YtagknifdfpjlbaaDoor.Lim
open Go.RowKit

/-- More rounds tell the same, and o is what they come to. -/
def LimIs {α : Type} (g : Nat → Option α) (o : Option α) : Prop :=
  (∀ k r, g k = some r → g (k + 1) = some r) ∧ ∀ r, o = some r ↔ ∃ k, g k = some r

/-- What g comes to. -/
noncomputable def Lim {α : Type} (g : Nat → Option α) : Option α :=
  @dite _ (∃ r, ∃ k, g k = some r) (Classical.propDecidable _) (fun h => some h.choose) (fun _ => none)

theorem mono_add {α : Type} {g : Nat → Option α} (h : ∀ k r, g k = some r → g (k + 1) = some r) {k : Nat} {r : α} (hr : g k = some r) : ∀ j, g (k + j) = some r
  | 0 => hr
  | j + 1 => h _ _ (mono_add h hr j)

theorem mono_le {α : Type} {g : Nat → Option α} (h : ∀ k r, g k = some r → g (k + 1) = some r) {k m : Nat} {r : α} (hr : g k = some r) (hm : k ≤ m) : g m = some r := by
  have := mono_add h hr (m - k)
  rwa [Nat.add_sub_cancel' hm] at this

theorem mono_one {α : Type} {g : Nat → Option α} (h : ∀ k r, g k = some r → g (k + 1) = some r) {k m : Nat} {r q : α} (hr : g k = some r) (hq : g m = some q) : r = q := by
  have h1 := mono_le h hr (Nat.le_max_left k m)
  have h2 := mono_le h hq (Nat.le_max_right k m)
  rw [h1] at h2
  exact Option.some.inj h2

theorem LimIs.of_mono {α : Type} {g : Nat → Option α} (h : ∀ k r, g k = some r → g (k + 1) = some r) : LimIs g (Lim g) := by
  refine ⟨h, fun r => ?_⟩
  unfold Lim
  by_cases e : ∃ r, ∃ k, g k = some r
  · rw [dif_pos e]
    obtain ⟨k, hk⟩ := e.choose_spec
    constructor
    · intro hr
      exact ⟨k, by rw [hk]; exact hr⟩
    · rintro ⟨m, hm⟩
      rw [mono_one h hk hm]
  · rw [dif_neg e]
    constructor
    · intro hr
      cases hr
    · rintro ⟨m, hm⟩
      exact absurd ⟨r, m, hm⟩ e

theorem LimIs.unique {α : Type} {g : Nat → Option α} {o p : Option α} (h : LimIs g o) (h' : LimIs g p) : o = p := by
  cases o with
  | some r => exact ((h'.2 r).2 ((h.2 r).1 rfl)).symm
  | none =>
    cases p with
    | none => rfl
    | some q => exact (h.2 q).2 ((h'.2 q).1 rfl)

theorem LimIs.const {α : Type} (o : Option α) : LimIs (fun _ => o) o := ⟨fun _ _ h => h, fun _ => ⟨fun h => ⟨0, h⟩, fun ⟨_, h⟩ => h⟩⟩

theorem LimIs.ite {α : Type} {c : Prop} [Decidable c] {X Y : Nat → Option α} {x y : Option α} (hx : LimIs X x) (hy : LimIs Y y) : LimIs (fun k => if c then X k else Y k) (if c then x else y) := by
  by_cases h : c
  · simp only [if_pos h]
    exact hx
  · simp only [if_neg h]
    exact hy

theorem LimIs.bind {α β : Type} {g : Nat → Option α} {f : Nat → α → Option β} {o : Option α} {p : α → Option β} (hg : LimIs g o) (hf : ∀ a, LimIs (fun k => f k a) (p a)) : LimIs (fun k => (g k).bind (f k)) (o.bind p) := by
  constructor
  · intro k r h
    obtain ⟨a, ha, hr⟩ := Option.bind_eq_some_iff.1 h
    exact Option.bind_eq_some_iff.2 ⟨a, hg.1 k a ha, (hf a).1 k r hr⟩
  · intro r
    constructor
    · intro h
      obtain ⟨a, ha, hr⟩ := Option.bind_eq_some_iff.1 h
      obtain ⟨k, hk⟩ := (hg.2 a).1 ha
      obtain ⟨m, hm⟩ := ((hf a).2 r).1 hr
      exact ⟨max k m, Option.bind_eq_some_iff.2 ⟨a, mono_le hg.1 hk (Nat.le_max_left _ _), mono_le (hf a).1 hm (Nat.le_max_right _ _)⟩⟩
    · rintro ⟨k, h⟩
      obtain ⟨a, ha, hr⟩ := Option.bind_eq_some_iff.1 h
      exact Option.bind_eq_some_iff.2 ⟨a, (hg.2 a).2 ⟨k, ha⟩, ((hf a).2 r).2 ⟨k, hr⟩⟩

theorem LimIs.step {α : Type} {g f : Nat → Option α} {o : Option α} (h0 : g 0 = none) (h : ∀ k, g (k + 1) = f k) (hf : LimIs f o) : LimIs g o := by
  constructor
  · intro k r hk
    cases k with
    | zero => rw [h0] at hk; cases hk
    | succ k => rw [h] at hk ⊢; exact hf.1 k r hk
  · intro r
    rw [hf.2 r]
    constructor
    · rintro ⟨k, hk⟩
      exact ⟨k + 1, by rw [h]; exact hk⟩
    · rintro ⟨k, hk⟩
      cases k with
      | zero => rw [h0] at hk; cases hk
      | succ k => exact ⟨k, by rw [h] at hk; exact hk⟩

theorem LimIs.step1 {α : Type} {g : Nat → Option α} {o : Option α} (h0 : g 0 = none) (hf : LimIs (fun k => g (k + 1)) o) : LimIs g o := LimIs.step h0 (fun _ => rfl) hf

theorem LimIs.rounds {α : Type} {g : Nat → Option α} {o : Option α} {r : α} (h : LimIs g o) (ho : o = some r) : ∃ k, g k = some r := (h.2 r).1 ho

/-! The same under short names. -/
theorem lM {α : Type} {g : Nat → Option α} (h : ∀ k r, g k = some r → g (k + 1) = some r) : LimIs g (Lim g) := LimIs.of_mono h
theorem lK {α : Type} (o : Option α) : LimIs (fun _ => o) o := LimIs.const o
theorem lI {α : Type} {c : Prop} [Decidable c] {X Y : Nat → Option α} {x y : Option α} (hx : LimIs X x) (hy : LimIs Y y) : LimIs (fun k => if c then X k else Y k) (if c then x else y) := LimIs.ite hx hy
theorem lB {α β : Type} {g : Nat → Option α} {f : Nat → α → Option β} {o : Option α} {p : α → Option β} (hg : LimIs g o) (hf : ∀ a, LimIs (fun k => f k a) (p a)) : LimIs (fun k => (g k).bind (f k)) (o.bind p) := LimIs.bind hg hf
theorem lU {α : Type} {g : Nat → Option α} {o p : Option α} (h : LimIs g o) (h' : LimIs g p) : o = p := LimIs.unique h h'
end Go.Proofs.YtagknifdfpjlbaaDoor.Lim
