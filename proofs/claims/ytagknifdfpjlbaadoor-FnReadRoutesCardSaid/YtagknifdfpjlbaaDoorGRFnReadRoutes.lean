/- What the reading contracts of Go's library (strings.Split, strings.Cut, strconv.Atoi) ask of the world, and that it stays. -/
import Derived.Test.YtagknifdfpjlbaaDoorGFnReadRoutes
import Derived.HandedShaped
import Derived.Handed
import Derived.Shelf.Vars
namespace Go.Proofs.YtagknifdfpjlbaaDoorW.PrintMore
open Go.RowKit Go.Proofs.YtagknifdfpjlbaaDoorW.PrintWords Go.Proofs.YtagknifdfpjlbaaDoorW.PrintLast
/-- The table of strconv.Itoa, some number in internal/bytealg.MaxLen, some value in strconv.ErrSyntax and strconv.ErrRange. -/
def Txts (w : World) : Prop := Tabs w ∧ (∃ m, w.cell? ⟨0, 0, none⟩ = some (.int .i64 m)) ∧ (∃ tp p, w.var? Tryd.prog "strconv.ErrSyntax" = some #[.iface tp p]) ∧ (∃ tp p, w.var? Tryd.prog "strconv.ErrRange" = some #[.iface tp p])
theorem Txts.tab {w : World} (h : Txts w) : Lib.TabIs Tryd.prog w "internal/strconv.uint64pow10" .u64 Lib.pow10Tab := h.1.tab
theorem var_below {n : String} {g : Nat} {c : Array Value} {w w' : World} (hg : Tryd.prog.globalNamed n = some g) (h : w.var? Tryd.prog n = some c) (hb : Below w.heap.size w w') : w'.var? Tryd.prog n = some c := by
  unfold World.var? at h ⊢
  rw [hg] at h ⊢
  simp only [Option.bind_some] at h ⊢
  have hlt : g < w.heap.size := by
    rcases Nat.lt_or_ge g w.heap.size with h' | h'
    · exact h'
    · rw [Array.getElem?_eq_none h'] at h; cases h
  rw [hb.block g hlt]
  exact h
theorem Txts.below {w w' : World} (h : Txts w) (hb : Below w.heap.size w w') : Txts w' := by
  obtain ⟨h1, ⟨m, hm⟩, ⟨tp, p, hp⟩, ⟨tq, q, hq⟩⟩ := h
  refine ⟨h1.below hb, ⟨m, ?_⟩, ⟨tp, p, var_below (g := 2) (by kernel_rfl) hp hb⟩, ⟨tq, q, var_below (g := 3) (by kernel_rfl) hq hb⟩⟩
  exact (hb.cell (World.block_lt_of_cell? w _ hm)).trans hm
theorem R_alloc {α : Type} (d : Kd α) (W : World) (e : Nat) {xs : List α} {inner : List Value} (hrep : Reps (d.M W W.heap.size (fun _ => True)) d.sz xs inner) (hm : xs.length ≤ 9223372036854775807) :
    d.R e (W.alloc (.cells inner.toArray e)) W.heap.size (fun _ => True) (.slice (some ⟨W.heap.size, 0, none⟩) xs.length xs.length) xs := by
  refine ⟨fun k hk => trivial, inner, ?_, ?_⟩
  · have h2 := World.ownsRow_lit (base := W.heap.size) (e := e) (size := d.sz) W inner.toArray xs.length (Nat.le_refl _) (by simpa [maxLen] using hm) (by simpa using hrep.1)
    simpa using h2
  · refine hrep.imp_ (fun p c hp => d.M_mono (fun k hk => ⟨trivial, fun he => ?_⟩) (d.M_below (d.M_bound hp) (below_alloc (Below.refl _ _) _)))
    have h3 : k = W.heap.size := by simpa [Value.ownBlock] using he
    have := hk.2.2.1
    omega
theorem reps_str (w : World) : ∀ xs : List ByteArray, Reps (Kd.string.M w w.heap.size (fun _ => True)) 1 xs (xs.map Value.string) := by
  intro xs
  refine ⟨by simp, fun j p hj => ?_⟩
  have h : (xs.map Value.string)[j]? = some (Value.string p) := by rw [List.getElem?_map, hj]; rfl
  have e : ((xs.map Value.string).drop (j * 1)).take 1 = [Value.string p] := by
    rw [Nat.mul_one]
    obtain ⟨hl, hv⟩ := List.getElem?_eq_some_iff.1 h
    rw [List.drop_eq_getElem_cons hl, hv]; rfl
  rw [e]; rfl
/-- strings.Split's new row. -/
theorem split_row (w : World) (xs : List ByteArray) (hm : xs.length ≤ 9223372036854775807) : Kd.R Kd.string 9 (w.alloc (.cells (xs.map Value.string).toArray 9)) w.heap.size (fun _ => True) (.slice (some ⟨w.heap.size, 0, none⟩) xs.length xs.length) xs :=
  R_alloc Kd.string w 9 (reps_str w xs) hm
end Go.Proofs.YtagknifdfpjlbaaDoorW.PrintMore
namespace Go.Proofs.YtagknifdfpjlbaaDoor.Row
variable {H : Type} {enc : TypeId × Value → H}
/-- A row's wrap that hands on the listed variables and the world's shape. -/
theorem handed_and_shaped {a : Assume} {C : Checked} {os : Os} {f : FuncId} {fn : Func} {s : ChangeSpec} {conds : List PathCond} {apart fresh handsOn again : Bool} {X : World → Array Value → Prop}
    (hX : ∀ (w w' : World) (args : Array Value), w.heap = w'.heap → X w args → X w' args)
    (own : ownKnob C.prog.godebug = none) (started : os.Started) (noInit : C.prog.inits.idxOf? f = none) (hfn : C.prog.funcs[f]? = some fn)
    (witness : ∃ (w : World) (tape : Tape) (i : Input), w.os = os ∧ (w.forCall tape i).Shaped C.prog ∧ i.vars = [] ∧ Input.okWide C.prog (w.forCall tape i) .any w.heap.size f i ∧
      ((s.pre enc C.prog fn conds apart (w.forCall tape i).memory i.args ∧ X (w.forCall tape i).memory i.args) ∧ sizedMet enc C.prog fn (OpenSpec.ofChange s) apart (w.forCall tape i).memory i.args) ∧ a.holds C.prog (lone (Frame.enter C.prog f i.args .normal) [] (w.forCall tape i)))
    (contract : ∀ (W : World) (base : Nat) (args : Array Value) (ds gs : List (DataW H)) (before : List MemPlace),
      (∀ (j : Nat) t v, fn.params[j]? = some t → args[j]? = some v → Value.okWide C.prog W .any base t v) →
      DataW.Whole enc C.prog fn.params.toList s.vars apart W args.toList ds gs before →
      (DataW.weightsEach C.prog (fn.params.toList ++ s.plain.varTypes C.prog) (ds ++ gs)).all (· ≤ reachBytes) = true → X W args → W.ShapedOpen C.prog →
      Calls C.prog f args W fun e W' => ∃ v, e = .returned v ∧ s.post enc C.prog fn apart fresh handsOn again W args v W') :
    ReturnsInHanded a C os f .any (fun w args => (s.pre enc C.prog fn conds apart w args ∧ X w args) ∧ sizedMet enc C.prog fn (OpenSpec.ofChange s) apart w args) (s.post enc C.prog fn apart fresh handsOn again) := by
  refine returnsInHanded_of_calls own started noInit witness ?_
  intro w tape i _ hsh _ hok hpre hholds
  obtain ⟨_, _, _, fn', hfn', _, _, _, _, hval⟩ := hok
  have e : fn' = fn := Option.some.inj (hfn'.symm.trans hfn)
  subst e
  obtain ⟨⟨⟨ds, gs, before, hw, hc⟩, hx⟩, hz⟩ := hpre
  have hw' := DataW.Whole.of_heap (w' := w.forCall tape i) (by rfl) hw
  refine (contract (w.forCall tape i) w.heap.size i.args ds gs before hval hw' (hz.weights hw) (hX _ _ _ (by rfl) hx) hsh).mono fun e W' ⟨v, he, hp⟩ => ?_
  subst he
  exact ChangeSpec.post_blind hp
end Go.Proofs.YtagknifdfpjlbaaDoor.Row
