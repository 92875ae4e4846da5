/- What the row's reading of an argument says in the words of kinds: a value that can be read as data of a type has cells of that type's kind. No condition. -/
import Derived.Test.YtcciackemicbbaaDoorWWords
import Derived.ChangeArms
import Derived.ChangeSlices
import Derived.DataReads
namespace Go.Proofs.YtcciackemicbbaaDoor.Opens
open Go.Proofs.YtcciackemicbbaaDoorW.PrintWords

/-- Whatever reads as data of type t has cells of kind d, and the value is in B. -/
def Opens {α : Type} (P : Program) (t : TypeId) (d : Kd α) (B : α → Prop) : Prop :=
  P.cellsOf t = d.sz ∧ ∀ (H : Type) (enc : TypeId × Value → H) (w : World) (base : Nat) (spare : Nat → Bool) (held : Bool) (fuel : Nat) (cs : List Value) (x : DataW H × List MemPlace),
    DataW.trod enc P w base spare held fuel t cs = some x → ∃ a, d.K w a cs ∧ B a

theorem Opens.int {P : Program} {t : TypeId} {k : IntKind} (hu : P.underlying t = some (.int k)) (hc : P.cellsOf t = 1) : Opens P t (Kd.int k) (fun n => (Lit.int k n).wf = true) := by
  refine ⟨hc, fun H enc w base spare held fuel cs x h => ?_⟩
  obtain ⟨n, rfl, _, hw⟩ := DataW.trod_int hu h
  exact ⟨n, rfl, hw⟩

theorem Opens.bool {P : Program} {t : TypeId} (hu : P.underlying t = some .bool) (hc : P.cellsOf t = 1) : Opens P t Kd.bool (fun _ => True) := by
  refine ⟨hc, fun H enc w base spare held fuel cs x h => ?_⟩
  obtain ⟨b, rfl, _⟩ := DataW.trod_bool hu h
  exact ⟨b, rfl, trivial⟩

theorem Opens.string {P : Program} {t : TypeId} (hu : P.underlying t = some .string) (hc : P.cellsOf t = 1) : Opens P t Kd.string (fun s => s.size ≤ 9223372036854775807) := by
  refine ⟨hc, fun H enc w base spare held fuel cs x h => ?_⟩
  obtain ⟨s, rfl, _, hs⟩ := DataW.trod_string hu h
  refine ⟨s, rfl, ?_⟩
  unfold maxLen at hs
  omega

theorem choose_list {α β : Type} (xs : List β) (R : Nat → β → α → Prop) (h : ∀ i b, xs[i]? = some b → ∃ a, R i b a) : ∃ ys : List α, ys.length = xs.length ∧ ∀ (i : Nat) b, xs[i]? = some b → ∃ a, ys[i]? = some a ∧ R i b a := by
  induction xs generalizing R with
  | nil => exact ⟨[], rfl, fun i b hb => by simp at hb⟩
  | cons x xs ih =>
    obtain ⟨a, ha⟩ := h 0 x rfl
    obtain ⟨ys, hl, hy⟩ := ih (fun i => R (i + 1)) (fun i b hb => h (i + 1) b (by simpa using hb))
    refine ⟨a :: ys, by simp [hl], fun i b hb => ?_⟩
    cases i with
    | zero =>
      have : x = b := by simpa using hb
      subst this
      exact ⟨a, rfl, ha⟩
    | succ i => exact hy i b (by simpa using hb)

theorem Opens.slice {α : Type} {P : Program} {t e e' : TypeId} {d : Kd α} {B : α → Prop} (hu : P.underlying t = some (.slice e)) (hc : P.cellsOf t = 1) (he : Opens P e d B) :
    Opens P t (Kd.slice e' d) (fun l => l.length ≤ 9223372036854775807 ∧ ∀ x ∈ l, B x) := by
  refine ⟨hc, fun H enc w base spare held fuel cs x h => ?_⟩
  rcases DataW.trod_slice hu h with ⟨rfl, _⟩ | ⟨a, len, cap, elems, rest, n, rfl, rfl, _, hb, hl, hm, hlen, hel, _, _⟩
  · exact ⟨[], ⟨none, 0, rfl, Nat.le_refl _, rfl, by simp, fun h => absurd h (by simp)⟩, by simp, by simp⟩
  · have each : ∀ i y, elems[i]? = some y → ∃ a', (∃ c, c.length = d.sz ∧ d.K w a' c ∧ ∀ j u, c[j]? = some u → w.cell? (a.add (i * d.sz + j)) = some u) ∧ B a' := by
      intro i y hy
      have hi : i < len := by
        have := (List.getElem?_eq_some_iff.1 hy).1
        omega
      have hr := hel i hi
      rw [hy, Option.bind_eq_some_iff] at hr
      obtain ⟨c, hcs, hty⟩ := hr
      obtain ⟨a', hK, hB⟩ := he.2 H enc w base spare held n c y hty
      obtain ⟨_, hcl, hcell⟩ := World.cells?_some hcs
      refine ⟨a', ⟨c, d.K_len hK, hK, fun j u hju => ?_⟩, hB⟩
      have hj : j < c.length := (List.getElem?_eq_some_iff.1 hju).1
      have := hcell j (by omega)
      rw [hju, he.1] at this
      rw [← this]
      by_cases h1 : j = 0 <;> by_cases h2 : i * d.sz = 0 <;> simp [Addr.add, Nat.add_assoc, h1, h2]
    obtain ⟨ys, hyl, hys⟩ := choose_list elems _ each
    have hylen : ys.length = len := by omega
    have mem : ∀ y ∈ ys, B y := by
      intro y hy
      obtain ⟨i, hi⟩ := List.getElem?_of_mem hy
      have hil : i < elems.length := by
        have := (List.getElem?_eq_some_iff.1 hi).1
        omega
      obtain ⟨a', ha, _, hB⟩ := hys i _ (List.getElem?_eq_getElem hil)
      rw [hi] at ha
      cases ha
      exact hB
    have hmx : len ≤ 9223372036854775807 := by
      unfold maxLen at hm
      omega
    refine ⟨ys, ⟨some a, cap, by rw [hylen], by omega, rfl, by omega, fun _ => ⟨a, rfl, fun j p hp => ?_⟩⟩, by omega, mem⟩
    have hjl : j < elems.length := by
      have := (List.getElem?_eq_some_iff.1 hp).1
      omega
    obtain ⟨a', ha, hR, _⟩ := hys j _ (List.getElem?_eq_getElem hjl)
    rw [hp] at ha
    cases ha
    exact hR

/-- The same for a struct's fields, from an offset on. -/
def OpensF {α : Type} (P : Program) (fs : List Field) (off : Nat) (d : Kd α) (B : α → Prop) : Prop :=
  ∀ (H : Type) (enc : TypeId × Value → H) (w : World) (base : Nat) (spare : Nat → Bool) (held : Bool) (fuel : Nat) (cs : List Value),
    cs.length = off + d.sz → (∀ f ∈ fs, ∃ y, DataW.trod enc P w base spare held fuel f.type ((cs.drop f.offset).take (P.cellsOf f.type)) = some y) → ∃ a, d.K w a (cs.drop off) ∧ B a

theorem OpensF.one {α : Type} {P : Program} {f : Field} {off : Nat} {d : Kd α} {B : α → Prop} (ho : f.offset = off) (h : Opens P f.type d B) : OpensF P [f] off d B := by
  intro H enc w base spare held fuel cs hl hf
  obtain ⟨y, hy⟩ := hf f (List.mem_singleton.2 rfl)
  rw [ho, h.1, List.take_of_length_le (by rw [List.length_drop]; omega)] at hy
  exact h.2 H enc w base spare held fuel _ y hy

theorem OpensF.cons {α β : Type} {P : Program} {f : Field} {fs : List Field} {off : Nat} {d1 : Kd α} {d2 : Kd β} {B1 : α → Prop} {B2 : β → Prop} (ho : f.offset = off) (h : Opens P f.type d1 B1) (h2 : OpensF P fs (off + d1.sz) d2 B2) :
    OpensF P (f :: fs) off (Kd.pair d1 d2) (fun x => B1 x.1 ∧ B2 x.2) := by
  intro H enc w base spare held fuel cs hl hf
  obtain ⟨y, hy⟩ := hf f (List.mem_cons_self)
  rw [ho, h.1] at hy
  obtain ⟨a, ha, hB⟩ := h.2 H enc w base spare held fuel _ y hy
  have hl' : cs.length = off + d1.sz + d2.sz := by
    have : (Kd.pair d1 d2).sz = d1.sz + d2.sz := rfl
    omega
  obtain ⟨b, hb, hB2⟩ := h2 H enc w base spare held fuel cs hl' (fun g hg => hf g (List.mem_cons_of_mem _ hg))
  refine ⟨(a, b), ⟨_, _, ?_, ha, hb⟩, hB, hB2⟩
  rw [← List.drop_drop]
  exact (List.take_append_drop _ _).symm

theorem Opens.struct {α β : Type} {P : Program} {t : TypeId} {fs : Array Field} {d : Kd α} {B : α → Prop} (f : β → α) (g : α → β) (hu : P.underlying t = some (.struct fs)) (hc : P.cellsOf t = d.sz) (hF : OpensF P fs.toList 0 d B) (hg : ∀ a, f (g a) = a) :
    Opens P t (Kd.iso d f) (fun b => B (f b)) := by
  refine ⟨hc, fun H enc w base spare held fuel cs x h => ?_⟩
  obtain ⟨xs, n, rfl, _, hl, hxl, hx⟩ := DataW.trod_struct hu h
  obtain ⟨a, ha, hB⟩ := hF H enc w base spare held n cs (by omega) (fun fld hfld => by
    obtain ⟨i, hi⟩ := List.getElem?_of_mem hfld
    have hi' : fs[i]? = some fld := by simpa using hi
    have h1 := hx i fld hi'
    have h2 : i < xs.length := by
      have := (List.getElem?_eq_some_iff.1 hi).1
      simp at this
      omega
    rw [List.getElem?_eq_getElem h2] at h1
    exact ⟨_, h1⟩)
  refine ⟨g a, ?_, ?_⟩
  · show d.K w (f (g a)) cs
    rw [hg]; exact ha
  · show B (f (g a))
    rw [hg]; exact hB

theorem Opens.mono {α : Type} {P : Program} {t : TypeId} {d : Kd α} {B B' : α → Prop} (h : Opens P t d B) (hB : ∀ a, B a → B' a) : Opens P t d B' :=
  ⟨h.1, fun H enc w base spare held fuel cs x hx => by
    obtain ⟨a, hK, hb⟩ := h.2 H enc w base spare held fuel cs x hx
    exact ⟨a, hK, hB a hb⟩⟩

end Go.Proofs.YtcciackemicbbaaDoor.Opens
