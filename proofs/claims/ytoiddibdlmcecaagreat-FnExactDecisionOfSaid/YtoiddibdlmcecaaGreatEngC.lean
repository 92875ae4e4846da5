/- What a row's reading of an argument says of the evaluator's values. No condition. -/
import Derived.Test.YtoiddibdlmcecaaGreatEngB
import Derived.ChangeArms
import Derived.ChangeSlices
import Derived.DataReads
import Derived.WideShapes
import Derived.Below
set_option linter.unusedSectionVars false
set_option linter.unusedVariables false
namespace Go.Proofs.YtoiddibdlmcecaaGreat.Eng
variable [Tys] [Rb]

/-- What is known of a value that came in: numbers of their kind, lengths that a machine can hold. -/
def Bnd : (t : Ty) → D t → Prop
  | .int k, n => (Lit.int k n).wf = true
  | .str, s => ByteArray.size s ≤ 9223372036854775807
  | .sl a, xs => List.length (α := D a) xs ≤ 9223372036854775807 ∧ ∀ x : D a, List.Mem x (show List (D a) from xs) → Bnd a x
  | .pair a b, v => Bnd a v.1 ∧ Bnd b v.2
  | .st i r, v => ∃ h : Tys.row i = r, Bnd r (h ▸ Tys.to i v)
  | _, _ => True
/-- Flat, and elements have cells. -/
def Ty.opens : Ty → Bool
  | .bool | .str | .int _ | .unit => true
  | .pair a b => a.opens && b.opens
  | .st i r => r.opens && decide (Tys.row i = r)
  | .sl a => a.opens && !Nat.beq a.sz 0
  | _ => false
variable {P : Program} {C : Wd} {ls : List (Nat × Nat)}
theorem TD.cellsOf {ty : Ty} {t : TypeId} (h : TD P ty t) : P.cellsOf t = ty.sz := by
  obtain ⟨i, h1, h2, _⟩ := h.inf
  simp [Program.cellsOf, h1, h2]
theorem choose_vals {α β : Type} (xs : List β) (R : Nat → β → α → Prop) (h : ∀ i b, xs[i]? = some b → ∃ a, R i b a) : ∃ ys : List α, ys.length = xs.length ∧ ∀ (i : Nat) b, xs[i]? = some b → ∃ a, ys[i]? = some a ∧ R i b a := by
  induction xs generalizing R with
  | nil => exact ⟨[], rfl, fun i b hb => by simp at hb⟩
  | cons x xs ih =>
    obtain ⟨a, ha⟩ := h 0 x rfl
    obtain ⟨ys, hl, hy⟩ := ih (fun i => R (i + 1)) (fun i b hb => h (i + 1) b (by simpa using hb))
    refine ⟨a :: ys, by simp [hl], fun i b hb => ?_⟩
    cases i with
    | zero =>
      have : x = b := by simpa using hb
      subst this
      exact ⟨a, rfl, ha⟩
    | succ i => exact hy i b (by simpa using hb)
section
variable {H : Type} {enc : TypeId × Value → H} {base : Nat} {spare : Nat → Bool} {held : Bool}
theorem opens (hRO : ∀ b, b < C.w.heap.size → C.RO ls b) : ∀ ty : Ty, ty.opens = true →
    (∀ (t : TypeId) (fuel : Nat) (cs : List Value) (x : DataW H × List MemPlace), TD P ty t → DataW.trod enc P C.w base spare held fuel t cs = some x → ∃ v : D ty, K C ty (ty.roOf ls) v cs noBlk ∧ Bnd ty v) ∧
    (∀ (fs : List Field) (off : Nat) (cs : List Value), FD P ty fs off → cs.length = off + ty.sz → (∀ f ∈ fs, ∃ fuel y, DataW.trod enc P C.w base spare held fuel f.type ((cs.drop f.offset).take (P.cellsOf f.type)) = some y) →
      ∃ v : D ty, K C ty (ty.roOf ls) v (cs.drop off) noBlk ∧ Bnd ty v)
  | .unit, _ => by
    refine ⟨fun t fuel cs x h _ => by simp only [TD] at h, fun fs off cs h hl _ => ?_⟩
    exact ⟨(), List.drop_of_length_le (by simp [hl, Ty.sz]), trivial⟩
  | .bool, _ => by
    refine ⟨fun t fuel cs x h hx => ?_, fun fs off cs h _ _ => by cases fs <;> simp only [FD] at h⟩
    obtain ⟨b, rfl, _⟩ := DataW.trod_bool h.1 hx
    exact ⟨b, rfl, trivial⟩
  | .str, _ => by
    refine ⟨fun t fuel cs x h hx => ?_, fun fs off cs h _ _ => by cases fs <;> simp only [FD] at h⟩
    obtain ⟨s, rfl, _, hs⟩ := DataW.trod_string h.1 hx
    refine ⟨s, rfl, ?_⟩
    unfold maxLen at hs
    show s.size ≤ _
    omega
  | .int k, _ => by
    refine ⟨fun t fuel cs x h hx => ?_, fun fs off cs h _ _ => by cases fs <;> simp only [FD] at h⟩
    obtain ⟨n, rfl, _, hw⟩ := DataW.trod_int h.1 hx
    exact ⟨n, rfl, hw⟩
  | .pair a b, ho => by
    simp only [Ty.opens, Bool.and_eq_true] at ho
    refine ⟨fun t fuel cs x h _ => by simp only [TD] at h, fun fs off cs h hl hf => ?_⟩
    cases fs with
    | nil => simp only [FD] at h
    | cons f fs =>
      obtain ⟨h1, h2, h3, h4⟩ := h
      obtain ⟨fuel, y, hy⟩ := hf f List.mem_cons_self
      have hl' : cs.length = off + a.sz + b.sz := by simp only [Ty.sz] at hl; omega
      rw [h1, h3.cellsOf] at hy
      obtain ⟨v, hv, hb⟩ := (opens hRO a ho.1).1 _ _ _ _ h3 hy
      obtain ⟨u, hu, hb2⟩ := (opens hRO b ho.2).2 fs (off + a.sz) cs h4 hl' fun g hg => hf g (List.mem_cons_of_mem _ hg)
      refine ⟨(v, u), ⟨_, _, noBlk, noBlk, ?_, by simp only [Ty.roOf, Ow.fst_mk]; exact hv, by simp only [Ty.roOf, Ow.snd_mk]; exact hu, fun _ h => h, fun _ h => h, fun _ h => h.elim⟩, hb, hb2⟩
      rw [← List.drop_drop]
      exact (List.take_append_drop _ _).symm
  | .st i r, ho => by
    simp only [Ty.opens, Bool.and_eq_true, decide_eq_true_eq] at ho
    obtain ⟨ho, hr⟩ := ho
    subst hr
    refine ⟨fun t fuel cs x h hx => ?_, fun fs off cs h _ _ => by cases fs <;> simp only [FD] at h⟩
    have hc := h.cellsOf
    simp only [TD] at h
    obtain ⟨fs, hu, _, hF, _⟩ := h
    obtain ⟨xs, n, rfl, _, hl, hxl, hx⟩ := DataW.trod_struct hu hx
    obtain ⟨v, hv, hb⟩ := (opens hRO (Tys.row i) ho).2 fs.toList 0 cs hF (by rw [hl, hc]; simp [Ty.sz]) (fun f hf => by
      obtain ⟨j, hj⟩ := List.getElem?_of_mem hf
      have hj' : fs[j]? = some f := by simpa using hj
      have h1 := hx j f hj'
      have h2 : j < xs.length := by
        have := (List.getElem?_eq_some_iff.1 hj).1
        simp at this
        omega
      rw [List.getElem?_eq_getElem h2] at h1
      exact ⟨_, _, h1⟩)
    refine ⟨Tys.of i v, ⟨rfl, ?_⟩, rfl, ?_⟩
    · show K C (Tys.row i) ((Tys.row i).roOf ls) (Tys.to i (Tys.of i v)) cs noBlk
      rw [Tys.to_of]
      rw [List.drop_zero] at hv
      exact hv
    · show Bnd (Tys.row i) (Tys.to i (Tys.of i v))
      rw [Tys.to_of]; exact hb
  | .sl a, ho => by
    simp only [Ty.opens, Bool.and_eq_true, Bool.not_eq_true'] at ho
    obtain ⟨ho, hsz⟩ := ho
    have hsz : 0 < a.sz := Nat.pos_of_ne_zero fun e => by rw [e] at hsz; cases hsz
    refine ⟨fun t fuel cs x h hx => ?_, fun fs off cs h _ _ => by cases fs <;> simp only [FD] at h⟩
    simp only [TD] at h
    obtain ⟨e, hu, _, hT⟩ := h
    rcases DataW.trod_slice hu hx with ⟨rfl, _⟩ | ⟨ad, len, cap, elems, rest, n, rfl, rfl, _, hb, hl, hm, hlen, hel, _, _⟩
    · exact ⟨([] : List (D a)), ⟨_, rfl, rfl, fun _ => ⟨none, 0, rfl, Nat.le_refl _, fun h => absurd rfl h⟩⟩, Nat.zero_le _, fun x hx => by cases hx⟩
    · have each : ∀ i y, elems[i]? = some y → ∃ v : D a, (∃ c, K C a (a.roOf ls) v c noBlk ∧ At C.w ad (i * a.sz) c) ∧ Bnd a v := by
        intro i y hy
        have hi : i < len := by
          have := (List.getElem?_eq_some_iff.1 hy).1
          omega
        have hr := hel i hi
        rw [hy, Option.bind_eq_some_iff] at hr
        obtain ⟨c, hcs, hty⟩ := hr
        obtain ⟨v, hK, hB⟩ := (opens hRO a ho).1 e n c y hT hty
        obtain ⟨_, hcl, hcell⟩ := World.cells?_some hcs
        refine ⟨v, ⟨c, hK, fun j u hju => ?_⟩, hB⟩
        have hj : j < c.length := (List.getElem?_eq_some_iff.1 hju).1
        have := hcell j (by omega)
        rw [hju, hT.cellsOf] at this
        rw [← this]
        by_cases h1 : j = 0 <;> by_cases h2 : i * a.sz = 0 <;> simp [Addr.add, Nat.add_assoc, h1, h2]
      obtain ⟨ys, hyl, hys⟩ := choose_vals elems _ each
      have hylen : ys.length = len := by omega
      have mem : ∀ y ∈ ys, Bnd a y := by
        intro y hy
        obtain ⟨i, hi⟩ := List.getElem?_of_mem hy
        have hil : i < elems.length := by
          have := (List.getElem?_eq_some_iff.1 hi).1
          omega
        obtain ⟨a', ha, _, hB⟩ := hys i _ (List.getElem?_eq_getElem hil)
        rw [hi] at ha
        cases ha
        exact hB
      have hmx : len ≤ 9223372036854775807 := by
        unfold maxLen at hm
        omega
      have rows : ∀ (j : Nat) (p : D a), ys[j]? = some p → ∃ xs, K C a (a.roOf ls) p xs noBlk ∧ At C.w ad (j * a.sz) xs := by
        intro j p hp
        have hjl : j < elems.length := by
          have := (List.getElem?_eq_some_iff.1 hp).1
          omega
        obtain ⟨a', ha, hR, _⟩ := hys j _ (List.getElem?_eq_getElem hjl)
        rw [hp] at ha
        cases ha
        exact hR
      refine ⟨(ys : List (D a)), ⟨_, rfl, rfl, fun _ => ⟨some ad, cap, by show Value.slice _ len cap = .slice _ ys.length cap; rw [hylen], ?_, fun hne => ⟨ad, rfl, hRO _ ?_, rows⟩⟩⟩, ?_, mem⟩
      · show ys.length ≤ cap; omega
      · have hne : ys ≠ [] := hne
        obtain ⟨p, hp⟩ : ∃ p, ys[0]? = some p := by
          cases ys with
          | nil => exact absurd rfl hne
          | cons p _ => exact ⟨p, rfl⟩
        obtain ⟨xs, hK, hat⟩ := rows 0 p hp
        have hxl := K_len _ _ _ _ _ hK
        obtain ⟨u, hu⟩ : ∃ u, xs[0]? = some u := by
          cases xs with
          | nil => simp at hxl; omega
          | cons u _ => exact ⟨u, rfl⟩
        have := hat 0 u hu
        simp only [Nat.zero_mul, Nat.add_zero, addr_zero] at this
        exact Nat.lt_of_not_le fun h => by
          unfold World.cell? at this
          rw [Array.getElem?_eq_none h] at this
          cases this
      · show ys.length ≤ _; omega
  | .bx _, ho => by cases ho
  | .pt _, ho => by cases ho
  | .tc _ _, ho => by cases ho
  | .fn _ _, ho => by cases ho
end
end Go.Proofs.YtoiddibdlmcecaaGreat.Eng
/- A law's call: its arguments read, its answer. No condition. -/
set_option linter.unusedSectionVars false
set_option linter.unusedVariables false
namespace Go.Proofs.YtoiddibdlmcecaaGreat.Eng
open Go.RowKit Go.WideShapes
section
variable [Tys] [Rb]
variable {P : Program} {C : Wd} {ls : List (Nat × Nat)} {H : Type} {enc : TypeId × Value → H} {base : Nat} {spare : Nat → Bool} {held : Bool}
theorem repV_one {ty : Ty} {v : Value} (h : v.cells = #[v]) (h1 : ty.isSt = false) : v = repV ty v.cells.toList := by
  rw [h]; simp [repV, h1]
theorem arg_rep {ty : Ty} {t : TypeId} {v : Value} {w : World} {base' : Nat} (hT : TD P ty t) (ho : ty.opens = true) (hok : Value.okWide P w .any base' t v) : v = repV ty v.cells.toList := by
  cases ty <;> first | cases ho | skip
  case bool => obtain ⟨b, rfl⟩ := okWide_bool hT.1 hok; rfl
  case str => obtain ⟨b, rfl⟩ := okWide_string hT.1 hok; rfl
  case int k => obtain ⟨b, rfl⟩ := okWide_int hT.1 hok; rfl
  case sl a =>
    simp only [TD] at hT
    obtain ⟨e, hu, _⟩ := hT
    obtain ⟨a, l, c, rfl⟩ := okWide_slice hu hok
    rfl
  case st i r =>
    simp only [TD] at hT
    obtain ⟨fs, hu, _⟩ := hT
    obtain ⟨cs, rfl, _⟩ := okWide_struct hu hok
    simp [repV, Ty.isSt, Value.cells]
  all_goals simp only [TD] at hT
theorem arg_KT0 (hRO : ∀ b, b < C.w.heap.size → C.RO ls b) {ty : Ty} {t : TypeId} {v : Value} {base' : Nat} {d : DataW H} {ps : List MemPlace} (hT : TD P ty t) (ho : ty.opens = true) (hok : Value.okWide P C.w .any base' t v)
    (h : DataW.Trod enc P C.w base spare held t v d ps) : ∃ x : D ty, KT0 C ty (ty.roOf ls) x v noBlk ∧ Bnd ty x := by
  obtain ⟨fuel, hf⟩ := h
  obtain ⟨x, hK, hB⟩ := (opens (C := C) (ls := ls) hRO ty ho).1 t fuel _ _ hT hf
  refine ⟨x, ?_, hB⟩
  rw [arg_rep hT ho hok]
  exact KT0_rep hT.one hK
theorem KTs_nil0 : KTs C (packA []).t (packA []).o (packA []).v [] noBlk := rfl
theorem KTs_cons0 {kv : KV} {kvs : List KV} {v : Value} {vs : List Value} (h : KT0 C kv.t kv.o kv.v v noBlk) (k : KTs C (packA kvs).t (packA kvs).o (packA kvs).v vs noBlk) :
    KTs C (packA (kv :: kvs)).t (packA (kv :: kvs)).o (packA (kv :: kvs)).v (v :: vs) noBlk :=
  ⟨v, vs, noBlk, noBlk, rfl, by show KT0 C kv.t (Ow.mk kv.o (packA kvs).o).fst kv.v v noBlk; rw [Ow.fst_mk]; exact h, by show KTs C _ (Ow.mk kv.o (packA kvs).o).snd _ vs noBlk; rw [Ow.snd_mk]; exact k, fun _ h => h, fun _ h => h, fun _ h => h.elim⟩
end
section
variable [Tys] [Cx]
/-- All blocks may be read. -/
@[reducible] def rbAll : Rb := ⟨fun _ _ => True⟩
theorem rbAll_RO {W : World} {p : Nat} : ∀ b, b < (@ctx0 _ rbAll W).w.heap.size → (@ctx0 _ rbAll W).RO [(PAR + p, 0)] b :=
  fun b hb => ⟨hb, fun n kv p q hn => (by cases (show Slot.fresh = .live kv p q from hn)), fun _ => ⟨_, List.mem_singleton.2 rfl, trivial⟩⟩
theorem law_calls (G : Good) {f : Nat} {args : List KV} {r : D (.pair .bool .unit)} (hl : lim (.call f args (.pair .bool .unit) .lit) = some r) {g : Sig} (hg : Cx.SG f = some g) (hio : iosAt g.modes 0 = []) {W : World} {vs : List Value}
    (hk : KTs (@ctx0 _ rbAll W) (packA args).t (packA args).o (packA args).v vs noBlk) (ho : (packA args).o.allL parOnly = true) :
    Calls Cx.P f vs.toArray W fun e W' => e = .returned (.bool r.1) ∧ Below W.heap.size W W' := by
  have S : CallSem f args (.pair .bool .unit) .lit r := lim_sem G hl
  have := S.calls g hg rbAll W vs noBlk hk ho (fun b h => h.elim)
  intro cs
  obtain ⟨e, w', fr, ⟨v, rfl, hB⟩, h2, h3, h4⟩ := this cs
  obtain ⟨S1, S2, b1, b2, b3, b4, b5, b6, b7, b8, b9⟩ := hB
  have hv : v = .bool r.1 := List.singleton_inj.1 (show [v] = [.bool r.1] from b1)
  subst hv
  exact ⟨_, w', fr, ⟨rfl, b5, b6, b7, b8, fun k hk => b9 k hk (fun h => h)⟩, h2, h3, h4⟩
end
end Go.Proofs.YtoiddibdlmcecaaGreat.Eng
