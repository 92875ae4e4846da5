/- The contracts of Go's library at this translation, in the form in which the printed texts use them, and the one fact about the world that they ask (a table of the library holds what it was laid with). -/
import Derived.Test.YtagknifdfpjlbaaDoorShelf
import Derived.Test.YtagknifdfpjlbaaDoorVFnReadRoutes
import Derived.Below
import Derived.RowKit
namespace Go.Proofs.YtagknifdfpjlbaaDoorW.PrintMore
open Go.RowKit Go.Proofs.YtagknifdfpjlbaaDoorW.PrintWords
def Tabs (w : World) : Prop := Lib.TabIs Tryd.prog w "internal/strconv.uint64pow10" .u64 Lib.pow10Tab
theorem tabB {w w' : World} (h : Tabs w) (hb : Below w.heap.size w w') : Tabs w' := by
  have hg : Tryd.prog.globalNamed "internal/strconv.uint64pow10" = some 1 := by kernel_rfl
  unfold Tabs Lib.TabIs World.var? at h ⊢
  rw [hg] at h ⊢
  simp only [Option.bind_some] at h ⊢
  have hlt : 1 < w.heap.size := by
    rcases Nat.lt_or_ge 1 w.heap.size with h' | h'
    · exact h'
    · rw [Array.getElem?_eq_none h'] at h; cases h
  rw [hb.block 1 hlt]
  exact h
theorem Tabs.below {w w' : World} (h : Tabs w) (hb : Below w.heap.size w w') : Tabs w' := tabB h hb
theorem Tabs.tab {w : World} (h : Tabs w) : Lib.TabIs Tryd.prog w "internal/strconv.uint64pow10" .u64 Lib.pow10Tab := h
theorem below_grow_drawn {w : World} (k : Nat) (os : Array Obj) : Below w.heap.size w (Sort.grow (w.drewN k) os) :=
  ⟨rfl, rfl, rfl, by simp [Sort.grow, World.drewN], fun i hi => by
    show (w.heap ++ os)[i]? = w.heap[i]?
    rw [Array.getElem?_append, if_pos hi]⟩
theorem spot_of_cell {w : World} {a : Addr} {v : Value} (h : w.cell? a = some v) : a.spot = none ∧ a.block < w.heap.size := by
  refine ⟨?_, World.block_lt_of_cell? w a h⟩
  unfold World.cell? at h
  split at h
  · split at h
    · cases h
    · next hn => simpa using hn
  · cases h
theorem str_cells {w : World} {A : Option Addr} {n : Nat} {xs : List ByteArray} (h : Kd.C Kd.string w A n xs) (h0 : xs ≠ []) :
    ∃ bk o, A = some ⟨bk, o, none⟩ ∧ bk < w.heap.size ∧ ∀ (j : Nat) x, xs[j]? = some x → w.cell? ⟨bk, o + j, none⟩ = some (.string x) := by
  have hn : 0 < n := by have := h.1; have : 0 < xs.length := List.length_pos_iff.mpr h0; omega
  obtain ⟨ad, e, hc⟩ := h.2.2 hn
  have hcell : ∀ (j : Nat) x, xs[j]? = some x → w.cell? (ad.add j) = some (.string x) := fun j x hx => by
    obtain ⟨c, hl, hR, hu⟩ := hc j x hx
    have hR' : c = [Value.string x] := hR
    subst hR'
    have h1 : w.cell? (ad.add (j * 1 + 0)) = some (.string x) := hu 0 _ rfl
    simpa using h1
  obtain ⟨x0, hx0⟩ : ∃ x, xs[0]? = some x := by
    cases xs with
    | nil => exact absurd rfl h0
    | cons x _ => exact ⟨x, rfl⟩
  obtain ⟨hs, hb⟩ := spot_of_cell (hcell 0 x0 hx0)
  obtain ⟨bk, o, s⟩ := ad
  have hs' : s = none := hs
  subst hs'
  refine ⟨bk, o, e, hb, fun j x hx => ?_⟩
  have := hcell j x hx
  unfold Addr.add at this
  split at this
  · next hj => subst hj; exact this
  · exact this
end Go.Proofs.YtagknifdfpjlbaaDoorW.PrintMore
