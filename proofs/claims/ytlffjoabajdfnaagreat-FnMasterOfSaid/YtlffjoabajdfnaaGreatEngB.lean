/- Literals of rows, and append. No condition. -/
import Derived.Test.YtlffjoabajdfnaaGreatEngA
import Derived.Laws.MakeOwn
import Derived.Deep.AppendSrc
import Derived.Deep.Upon
import Derived.Still
import Derived.Tactics
set_option linter.unusedSectionVars false
set_option linter.unusedVariables false
namespace Go.Proofs.YtlffjoabajdfnaaGreat.Eng
open Go.RowKit (wrap64)
variable [Tys] [Rb] [Cx]
variable {nb : Nat}
variable {F : Fr} {σ σ' : St} {a : Act} {w w' : World} {μ : Nat → Value} {own : Nat → Blk} {o : Oper} {s s1 : Nat → Slot} {C : Wd}
theorem fill_row {sz : Nat} : ∀ (us : List Value) (k : Nat) (cells : Array Value), (k + us.length) * sz ≤ cells.size → (∀ u ∈ us, u.cells.size = sz) →
    Instr.fill (fun i => some (i * sz, sz)) cells ((us.zipIdx k).map fun x => (x.2, x.1)) = some (cells.toList.take (k * sz) ++ us.flatMap (·.cells.toList) ++ cells.toList.drop ((k + us.length) * sz)).toArray
  | [], k, cells, _, _ => by simp [Instr.fill]
  | u :: us, k, cells, h, hu => by
    have h1 := hu u List.mem_cons_self
    have hk : (k + 1) * sz ≤ (k + (us.length + 1)) * sz := Nat.mul_le_mul_right _ (by omega)
    simp only [List.length_cons] at h
    have e0 : (k + 1) * sz = k * sz + sz := Nat.succ_mul _ _
    simp only [List.zipIdx_cons, List.map_cons]
    rw [fill_one (place := fun i => some (i * sz, sz)) rfl h1 (by omega)]
    have hlen : (cells.toList.take (k * sz) ++ u.cells.toList ++ cells.toList.drop (k * sz + sz)).length = cells.size := by simp; omega
    rw [fill_row us (k + 1) _ (by simp only [List.size_toArray, hlen]; rw [Nat.add_assoc, Nat.add_comm 1]; exact h) (fun v hv => hu v (List.mem_cons_of_mem _ hv))]
    congr 1
    apply Array.ext'
    simp only [List.flatMap_cons, List.length_cons]
    have e1 : (cells.toList.take (k * sz) ++ u.cells.toList ++ cells.toList.drop (k * sz + sz)).take ((k + 1) * sz) = cells.toList.take (k * sz) ++ u.cells.toList := by
      rw [List.take_left']
      simp; omega
    have e2 : (cells.toList.take (k * sz) ++ u.cells.toList ++ cells.toList.drop (k * sz + sz)).drop ((k + 1 + us.length) * sz) = cells.toList.drop ((k + (us.length + 1)) * sz) := by
      have e3 : (k + 1 + us.length) * sz = (k + (us.length + 1)) * sz := by congr 1; omega
      rw [e3, List.drop_append, List.drop_of_length_le (by simp; omega), List.nil_append, List.drop_drop]
      congr 1
      simp
      omega
    rw [e1, e2]
    simp [List.append_assoc]
theorem flat_at {sz : Nat} : ∀ (us : List Value) (i : Nat) (u : Value), (∀ u ∈ us, u.cells.size = sz) → us[i]? = some u → ∀ (j : Nat) (x : Value), u.cells.toList[j]? = some x → (us.flatMap (·.cells.toList))[i * sz + j]? = some x
  | [], _, _, _, h, _, _, _ => by simp at h
  | v :: us, i, u, hu, h, j, x, hj => by
    have hv := hu v List.mem_cons_self
    cases i with
    | zero =>
      obtain rfl : v = u := by simpa using h
      simp only [List.flatMap_cons, Nat.zero_mul, Nat.zero_add]
      have hlt : j < v.cells.toList.length := by
        rcases Nat.lt_or_ge j v.cells.toList.length with h | h
        · exact h
        · rw [List.getElem?_eq_none h] at hj; cases hj
      rw [List.getElem?_append_left hlt]
      exact hj
    | succ i =>
      simp only [List.flatMap_cons]
      rw [List.getElem?_append_right (by simp [hv, Nat.succ_mul]; omega)]
      have := flat_at us i u (fun u hu' => hu u (List.mem_cons_of_mem _ hu')) (by simpa using h) j x hj
      rw [show (i + 1) * sz + j - v.cells.toList.length = i * sz + j by simp [hv, Nat.succ_mul]; omega]
      exact this
theorem flat_len {sz : Nat} : ∀ (us : List Value), (∀ u ∈ us, u.cells.size = sz) → (us.flatMap (·.cells.toList)).length = us.length * sz
  | [], _ => by simp
  | u :: us, h => by
    rw [List.flatMap_cons, List.length_append, flat_len us fun v hv => h v (List.mem_cons_of_mem _ hv)]
    simp [h u List.mem_cons_self, Nat.succ_mul, Nat.add_comm]
theorem valsOf_Val (I : Inv F σ a w μ own) {c : Ty} : ∀ (l : List (Nat × Operand)) (xs : List KV), valsOf σ.env c l = some xs →
    xs.length = l.length ∧ ∀ (i : Nat) (x : KV) (p : Nat × Operand), xs[i]? = some x → l[i]? = some p → x.t = c ∧ Val (ctx σ.sto w μ own) σ.sto x (a.eval p.2)
  | [], xs, h => by obtain rfl := Option.some.inj h; simp
  | p :: l, xs, h => by
    simp only [valsOf] at h
    split at h
    · rename_i x xs' h1 h2
      split at h
      · rename_i ht
        obtain rfl := Option.some.inj h
        obtain ⟨h3, h4⟩ := valsOf_Val I l xs' h2
        refine ⟨by simp [h3], fun i y q hy hq => ?_⟩
        cases i with
        | zero =>
          obtain rfl : x = y := by simpa using hy
          obtain rfl : p = q := by simpa using hq
          exact ⟨ht, val_Val I h1⟩
        | succ i => exact h4 i y q (by simpa using hy) (by simpa using hq)
      · cases h
    · cases h
theorem keysAre_eq {ρ : Operand → Value} : ∀ (l : List (Nat × Operand)) (k n : Nat), keysAre l k n = true → n = k + l.length ∧ l.map (fun x => (x.1, ρ x.2)) = ((l.map fun x => ρ x.2).zipIdx k).map fun x => (x.2, x.1)
  | [], k, n, h => by simp only [keysAre] at h; exact ⟨by simpa using (Nat.eq_of_beq_eq_true h).symm, rfl⟩
  | p :: l, k, n, h => by
    simp only [keysAre, Bool.and_eq_true] at h
    obtain ⟨h1, h2⟩ := keysAre_eq (ρ := ρ) l (k + 1) n h.2
    refine ⟨by simp; omega, ?_⟩
    simp only [List.map_cons, List.zipIdx_cons]
    rw [h2, Nat.eq_of_beq_eq_true h.1]
theorem Ents.mono {s s1 : Nat → Slot} (h : Ents C s own) (hs : ∀ n kv p q, s1 n = .live kv p q → s n = .live kv p q) : Ents C s1 own :=
  ⟨fun n kv p q hn => h.K n kv p q (hs n kv p q hn), fun n m ⟨kv1, p1, q1, e1⟩ ⟨kv2, p2, q2, e2⟩ => h.disj n m ⟨_, _, _, hs _ _ _ _ e1⟩ ⟨_, _, _, hs _ _ _ _ e2⟩⟩
theorem sim_buildSlice (G : Good) (I : Inv F σ a w μ own) (hf : Fits F a o) {T : List Nat} {t : TypeId} {len : Nat} {parts : Array (Nat × Operand)} (ho : o.op = .buildSlice t len parts) {ty : Ty} (ht : tyOf t = some ty) {e : Eff}
    (he : buildSliceR nb σ.env (within σ.sto T) ty len parts.toList = .eff e) (hc : ∀ b ∈ e.conds, b = true) : Sim F σ a w o e := by
  unfold buildSliceR at he
  split at he
  · rename_i c
    cases hb : (keysAre parts.toList 0 len && Nat.ble (len * c.sz) 16777216 && c.flat) with
    | false => rw [hb] at he; cases he
    | true =>
      rw [hb] at he
      simp only [Bool.and_eq_true] at hb
      obtain ⟨⟨hkeys, hle⟩, hfl⟩ := hb
      have hle := Nat.le_of_ble_eq_true hle
      simp only [cond_true] at he
      split at he
      · rename_i xs hxs
        split at he
        · rename_i vs e' g hel
          cases he
          obtain ⟨el, hu, _, hTe⟩ := tyOf_TD G ht
          have hone := hTe.one
          obtain ⟨inf, i1, i2, i3⟩ := hTe.inf
          obtain ⟨z, z1, z2⟩ := i3 hfl
          obtain ⟨k1, k2⟩ := keysAre_eq (ρ := a.eval) parts.toList 0 len hkeys
          obtain ⟨v1, v2⟩ := valsOf_Val I _ _ hxs
          have hsub : ∀ n kv p q, within σ.sto T n = .live kv p q → σ.sto n = .live kv p q := fun n kv p q h => within_live h
          have hE := I.ents.mono hsub
          generalize hus : parts.toList.map (fun x => a.eval x.2) = us at k2
          have husl : us.length = parts.toList.length := by rw [← hus]; simp
          obtain ⟨r1, ⟨r2, r3, Sr, r4, r5, r6⟩, r7⟩ := elemsOf_K (C := ctx σ.sto w μ own) hone xs us (within σ.sto T) vs e' g hel (by omega) (fun i x u hx hu' => by
              rw [← hus] at hu'
              rw [List.getElem?_map] at hu'
              cases hp : parts.toList[i]? with
              | none => rw [hp] at hu'; cases hu'
              | some p =>
                rw [hp] at hu'
                obtain rfl := Option.some.inj hu'
                obtain ⟨h1, h2⟩ := v2 i x p hx hp
                exact ⟨h1, h2.kt⟩) hE
          have hg : ∀ n ∈ g, (σ.sto n).lives := fun n hn => by obtain ⟨kv, p, q, e⟩ := r1 n hn; exact ⟨kv, p, q, hsub _ _ _ _ e⟩
          have hsz : ∀ u ∈ us, u.cells.size = c.sz := fun u hu' => (r3 u hu').1
          have hlen : len = us.length := by omega
          generalize hz0 : (if len * c.sz = 0 then #[] else z.cells : Array Value) = zero
          generalize hcells : ((Array.range (len * c.sz)).map fun i => zero[i % zero.size]!) = cells0
          have hc0 : cells0.size = len * c.sz := by rw [← hcells]; simp
          have hfill := fill_row (sz := c.sz) us 0 cells0 (by rw [hc0, hlen]; simp) hsz
          have hfin : Instr.fill (fun i => some (i * c.sz, c.sz)) cells0 ((parts.map fun (i, x) => (i, a.eval x)).toList) = some (us.flatMap (·.cells.toList)).toArray := by
            have e1 : (parts.map fun (i, x) => (i, a.eval x)).toList = parts.toList.map fun x => (x.1, a.eval x.2) := by simp
            rw [e1, k2, hfill]
            congr 1
            apply Array.ext'
            simp only [Nat.zero_mul, List.take_zero, List.nil_append, Nat.zero_add]
            rw [List.drop_of_length_le (by simp [hc0, hlen]), List.append_nil]
          have hrun : (execOp a.eval o).run Cx.P w = .ok (.value (.slice (some ⟨w.heap.size, 0, none⟩) len len)) { w with heap := w.heap.push (.cells (us.flatMap (·.cells.toList)).toArray el) } := by
            have hnot : ¬ len * c.sz > 2 ^ 24 := by omega
            simp only [execOp, ho, Instr.buildSlice, Sem.run_bind, run_underlying hu, Result.andThen_ok, hTe.size, Sem.run_ite, if_neg hnot, Sem.run_pure]
            by_cases h0 : len * c.sz = 0
            · rw [if_pos h0] at hz0
              subst hz0
              simp only [if_pos h0, Result.andThen_ok, hcells, hfin, Sem.run_bind, newRow, run_newObj, Sem.run_pure]
            · rw [if_neg h0] at hz0
              subst hz0
              simp only [if_neg h0, Sem.run_bind, zeroValue, typeInfo, run_program, i1, Sem.run_pure, z1, Result.andThen_ok, hcells, hfin, newRow, run_newObj]
          have T0 := turn_gone (g := g) (w' := { w with heap := w.heap.push (.cells (us.flatMap (·.cells.toList)).toArray el) }) I hg (by simp) (fun b hb h => absurd (alloc_old hb) h)
          have hown : ∀ n ∈ g, ∀ k, own n k → k < w.heap.size := fun n hn k hk => by obtain ⟨kv, p, q, e⟩ := hg n hn; exact (I.bound n _ _ _ e k hk).1
          have hlns : ∀ l ∈ (e'.getD c.ownOf).lns, known σ.sto l := fun l hl => by
            rcases r7 with ⟨_, rfl⟩ | ⟨e2, rfl, h, _⟩
            · simp only [Option.getD_none, Ty.lns_ownOf] at hl; cases hl
            · rcases h l hl with ⟨x, hx, hz⟩ | ⟨n, kv, p, q, h1, h2⟩
              · obtain ⟨i, hi⟩ := List.mem_iff_getElem?.1 hx
                obtain ⟨p, hp⟩ : ∃ p, parts.toList[i]? = some p := by
                  have : i < xs.length := (List.getElem?_eq_some_iff.1 hi).1
                  exact ⟨_, List.getElem?_eq_getElem (by omega)⟩
                exact (v2 i x p hi hp).2.lns l hz
              · exact I.lnsS n kv p q (hsub _ _ _ _ h1) l h2
          have hsays : ∀ m, (e'.getD c.ownOf).says m → σ.sto m ≠ .fresh := fun m hm => by
            rcases r7 with ⟨_, rfl⟩ | ⟨e2, rfl, _, h⟩
            · exact (Ty.says_ownOf _ _ hm).elim
            · rcases h m hm with ⟨x, hx, hz⟩ | ⟨n, kv, p, q, h1, h2⟩
              · obtain ⟨i, hi⟩ := List.mem_iff_getElem?.1 hx
                obtain ⟨p, hp⟩ : ∃ p, parts.toList[i]? = some p := by
                  have : i < xs.length := (List.getElem?_eq_some_iff.1 hi).1
                  exact ⟨_, List.getElem?_eq_getElem (by omega)⟩
                exact (v2 i x p hi hp).2.says m hz
              · exact I.saysS n kv p q (hsub _ _ _ _ h1) m h2
          refine sim_alloc (g := g) I hf hrun hg (S := fun b => b = w.heap.size ∨ ∃ n ∈ g, own n b) ?_ hsays hlns (fun b hb => hb)
          refine .inr ⟨w.heap.size, 0, len, _, _, by rw [r2, ← hlen], by rw [show List.length vs = len by omega]; exact Nat.le_refl _, .inl rfl, alloc_new, ?_, Sr, fun i k hk => ?_, r5, fun i v hv => ?_⟩
          · rw [hlen]; simp [flat_len us hsz]
          · obtain ⟨n, hn, h⟩ := r4 i k hk
            exact ⟨.inr ⟨n, hn, h⟩, fun e => by subst e; exact absurd (hown n hn _ h) (Nat.lt_irrefl _)⟩
          · obtain ⟨u, hu'⟩ : ∃ u, us[i]? = some u := by
              have : i < vs.length := (List.getElem?_eq_some_iff.1 hv).1
              exact ⟨_, List.getElem?_eq_getElem (by omega)⟩
            refine ⟨u.cells.toList, K_keep _ _ _ _ _ (T0.mid (μ' := μ) I.low (fun b hb => ?_) hlns) (r6 i v u hv hu'), ?_⟩
            · obtain ⟨n, hn, h⟩ := r4 i b hb
              exact alloc_old (hown n hn b h)
            · have := At.cells (off := 0) (alloc_new (w := w) (obj := .cells (us.flatMap (·.cells.toList)).toArray el))
              intro j x hj
              have h2 := flat_at us i u hsz hu' j x hj
              have := this (i * c.sz + j) x (by simpa using h2)
              rw [Nat.zero_add] at this
              exact this
        · cases he
      · cases he
  · cases he
end Go.Proofs.YtlffjoabajdfnaaGreat.Eng
/- Rows of zeros. No condition. -/
set_option linter.unusedSectionVars false
set_option linter.unusedVariables false
namespace Go.Proofs.YtlffjoabajdfnaaGreat.Eng
open Go.RowKit (wrap64)
variable [Tys] [Rb] [Cx]
variable {nb : Nat}
variable {F : Fr} {σ σ' : St} {a : Act} {w w' : World} {μ : Nat → Value} {own : Nat → Blk} {o : Oper} {s s1 : Nat → Slot} {C : Wd}
theorem made_part {z : Array Value} {sz m i : Nat} (hz : z.size = sz) (hi : i < m) : ((madeCells z (m * sz)).toList.drop (i * sz)).take sz = z.toList := by
  have hmul : (i + 1) * sz ≤ m * sz := Nat.mul_le_mul_right _ hi
  rw [Nat.succ_mul] at hmul
  apply List.ext_getElem?
  intro j
  rw [List.getElem?_take]
  split
  · rename_i hj
    rw [List.getElem?_drop]
    have hlt : i * sz + j < m * sz := by omega
    have hm : (i * sz + j) % sz = j := by
      rw [Nat.add_comm, Nat.add_mul_mod_self_right, Nat.mod_eq_of_lt hj]
    simp only [madeCells, Array.getElem?_toList, Array.getElem?_map, Array.getElem?_range, if_pos hlt, Option.map_some, hz, hm]
    rw [getElem!_pos z j (by omega), Array.getElem?_eq_getElem (by omega)]
  · rename_i hj
    rw [List.getElem?_eq_none (by simp [hz]; omega)]
theorem sim_makeSlice (G : Good) (I : Inv F σ a w μ own) (hf : Fits F a o) {t : TypeId} {l c : Operand} (ho : o.op = .makeSlice t l c) {el : Ty} {eb : Nat} (ht : Cx.TB t = some ⟨.sl el, eb⟩) {x y : KV}
    (hx : Val (ctx σ.sto w μ own) σ.sto x (a.eval l)) (hy : Val (ctx σ.sto w μ own) σ.sto y (a.eval c)) {e : Eff} (he : makeSliceR nb el eb x y = .eff e) (hc : ∀ b ∈ e.conds, b = true) : Sim F σ a w o e := by
  unfold makeSliceR at he
  split at he
  · rename_i kn n _ km m _
    change Int at n
    change Int at m
    cases hb : (el.flat && Nat.blt 0 eb) with
    | false => rw [hb] at he; cases he
    | true =>
      rw [hb] at he
      cases he
      simp only [Bool.and_eq_true] at hb
      obtain ⟨hfl, heb⟩ := hb
      have heb : 0 < eb := by simpa using heb
      have h1 : (0 : Int) ≤ n := of_decide_eq_true (hc (decide ((0 : Int) ≤ n)) (by simp [Eff.named, makeConds]))
      have h2 : (n : Int) ≤ m := of_decide_eq_true (hc (decide (n ≤ m)) (by simp [Eff.named, makeConds]))
      have h3 : (eb : Int) * m ≤ 281474976710656 := of_decide_eq_true (hc (decide ((eb : Int) * m ≤ 281474976710656)) (by simp [Eff.named, makeConds]))
      obtain ⟨hT, hE⟩ := G.tb t _ ht
      obtain ⟨e1, i, hu, hi, hbytes⟩ := hE el rfl
      obtain ⟨e2, hu2, _, hTe⟩ := hT
      rw [hu] at hu2
      cases hu2
      obtain ⟨i', i1, i2, i3⟩ := hTe.inf
      rw [hi] at i1
      obtain rfl := Option.some.inj i1
      obtain ⟨z, z1, z2⟩ := i3 hfl
      have hn : a.eval l = .int kn n := kt_int hx.kt
      have hm : a.eval c = .int km m := kt_int hy.kt
      have hmb : m ≤ 9223372036854775807 := by
        have h0 : 0 ≤ m := Int.le_trans h1 h2
        have : m ≤ (eb : Int) * m := by
          have := Int.mul_le_mul_of_nonneg_right (show (1 : Int) ≤ (eb : Int) by omega) h0
          simpa using this
        omega
      have hrun : (execOp a.eval o).run Cx.P w = .ok (.value (.slice (some ⟨w.heap.size, 0, none⟩) n.toNat m.toNat)) { w with heap := w.heap.push (.cells (madeCells z.cells (m.toNat * i.size)) e1) } := by
        have := run_make (P := Cx.P) w t e1 i z hu hi z1 kn km n m h1 h2 (by rw [hbytes]; exact h3) hmb
        simp only [execOp, ho, hn, hm, Sem.run_bind, this, Result.andThen_ok, Sem.run_pure]
        rfl
      have hzs : z.cells.size = el.sz := by
        have := K_len _ _ _ _ _ (K_zeros (C := ctx σ.sto w μ own) G el hfl)
        rw [← z2] at this
        simpa using this
      refine sim_alloc (g := []) I hf (S := fun b => b = w.heap.size) hrun (by simp) ?_ (fun m hm => (Ty.says_ownOf _ _ hm).elim) (fun l hl => by simp only [Ow.lns, Ty.lns_ownOf] at hl; cases hl) (fun b hb => .inl hb)
      refine .inr ⟨w.heap.size, 0, m.toNat, _, _, ?_, ?_, rfl, alloc_new, ?_, fun _ => noBlk, fun _ _ h => h.elim, fun _ _ _ h => h.elim, fun j v hj => ?_⟩
      · show [Value.slice _ n.toNat m.toNat] = [Value.slice _ (List.replicate (Int.toNat n) el.dflt).length m.toNat]
        rw [List.length_replicate]
      · show (List.replicate (Int.toNat n) el.dflt).length ≤ m.toNat
        rw [List.length_replicate]
        exact Int.toNat_le_toNat h2
      · rw [size_madeCells, i2]; omega
      · have hj' : (List.replicate (Int.toNat n) el.dflt)[j]? = some v := hj
        rw [List.getElem?_replicate] at hj'
        split at hj'
        · rename_i hlt
          obtain rfl := Option.some.inj hj'
          have hlm : j < m.toNat := by omega
          refine ⟨z.cells.toList, by rw [z2]; exact K_zeros G el hfl, ?_⟩
          have := (At.cells (off := 0) (alloc_new (w := w) (obj := .cells (madeCells z.cells (m.toNat * i.size)) e1))).part (off := j * el.sz) (n := el.sz)
          simp only [List.drop_zero, Nat.zero_add, i2] at this
          rw [made_part hzs hlm] at this
          rw [i2]
          exact this
        · cases hj'
  · cases he
end Go.Proofs.YtlffjoabajdfnaaGreat.Eng
/- append. No condition. -/
set_option linter.unusedSectionVars false
set_option linter.unusedVariables false
namespace Go.Proofs.YtlffjoabajdfnaaGreat.Eng
open Go.RowKit (wrap64)
variable [Tys] [Rb] [Cx]
variable {F : Fr} {σ σ' : St} {a : Act} {w w' : World} {μ : Nat → Value} {own : Nat → Blk} {o : Oper} {s s1 : Nat → Slot} {C : Wd}
theorem choose_rows {α : Type} {P : Nat → α → List Value → Prop} : ∀ (ys : List α) (k : Nat), (∀ i x, ys[i]? = some x → ∃ r, P (k + i) x r) → ∃ rows : List (List Value), rows.length = ys.length ∧ ∀ i x r, ys[i]? = some x → rows[i]? = some r → P (k + i) x r
  | [], k, _ => ⟨[], rfl, fun i x r h => by simp at h⟩
  | y :: ys, k, h => by
    obtain ⟨r, hr⟩ := h 0 y rfl
    obtain ⟨rows, h1, h2⟩ := choose_rows ys (k + 1) fun i x hx => by
      have := h (i + 1) x (by simpa using hx)
      rwa [show k + (i + 1) = k + 1 + i by omega] at this
    refine ⟨r :: rows, by simp [h1], fun i x r' hx hr' => ?_⟩
    cases i with
    | zero =>
      obtain rfl : y = x := by simpa using hx
      obtain rfl : r = r' := by simpa using hr'
      exact hr
    | succ i =>
      have := h2 i x r' (by simpa using hx) (by simpa using hr')
      rwa [show k + 1 + i = k + (i + 1) by omega] at this
theorem join_len {sz : Nat} : ∀ (rows : List (List Value)), (∀ r ∈ rows, r.length = sz) → rows.flatten.length = rows.length * sz
  | [], _ => by simp
  | r :: rows, h => by
    rw [List.flatten_cons, List.length_append, join_len rows fun v hv => h v (List.mem_cons_of_mem _ hv), h r List.mem_cons_self, List.length_cons, Nat.succ_mul, Nat.add_comm]
theorem join_at {sz : Nat} : ∀ (rows : List (List Value)) (i : Nat) (r : List Value), (∀ r ∈ rows, r.length = sz) → rows[i]? = some r → ∀ (j : Nat) (x : Value), r[j]? = some x → rows.flatten[i * sz + j]? = some x
  | [], _, _, _, h, _, _, _ => by simp at h
  | q :: rows, i, r, hu, h, j, x, hj => by
    have hq := hu q List.mem_cons_self
    cases i with
    | zero =>
      obtain rfl : q = r := by simpa using h
      simp only [List.flatten_cons, Nat.zero_mul, Nat.zero_add]
      have hlt : j < q.length := by
        rcases Nat.lt_or_ge j q.length with h | h
        · exact h
        · rw [List.getElem?_eq_none h] at hj; cases hj
      rw [List.getElem?_append_left hlt]
      exact hj
    | succ i =>
      simp only [List.flatten_cons]
      rw [List.getElem?_append_right (by simp [hq, Nat.succ_mul]; omega)]
      have := join_at rows i r (fun u hu' => hu u (List.mem_cons_of_mem _ hu')) (by simpa using h) j x hj
      rw [show (i + 1) * sz + j - q.length = i * sz + j by simp [hq, Nat.succ_mul]; omega]
      exact this
theorem join_cells {w : World} {sz : Nat} {ad : Addr} : ∀ (rows : List (List Value)) (k : Nat), (∀ r ∈ rows, r.length = sz) → (∀ i r, rows[i]? = some r → At w ad ((k + i) * sz) r) → ∀ j x, rows.flatten[j]? = some x → w.cell? (ad.add (k * sz + j)) = some x
  | [], _, _, _, j, x, h => by simp at h
  | r :: rows, k, hs, ha, j, x, h => by
    have hr := hs r List.mem_cons_self
    rw [List.flatten_cons] at h
    by_cases hj : j < r.length
    · rw [List.getElem?_append_left hj] at h
      simpa using ha 0 r rfl j x h
    · rw [List.getElem?_append_right (by omega)] at h
      have := join_cells rows (k + 1) (fun u hu => hs u (List.mem_cons_of_mem _ hu)) (fun i r hr => by
        have := ha (i + 1) r (by simpa using hr)
        rwa [show k + (i + 1) = k + 1 + i by omega] at this) _ x h
      rw [← this, hr]
      congr 2
      rw [Nat.succ_mul]
      omega
theorem K_plain : ∀ (t : Ty) (ow : Ow) (v : D t) (cs : List Value) (S S' : Blk), t.plain = true → K C t ow v cs S → K C t ow v cs S'
  | .unit, _, _, _, _, _, _, h => h
  | .bool, _, _, _, _, _, _, h => h
  | .str, _, _, _, _, _, _, h => h
  | .fn _ _, _, _, _, _, _, _, h => h
  | .int _, _, _, _, _, _, _, h => h
  | .pair A B, _, _, _, _, _, hp, h => by
    obtain ⟨c1, c2, S1, S2, rfl, h1, h2, h3, h4, h5⟩ := h
    simp only [Ty.plain, Bool.and_eq_true] at hp
    exact ⟨c1, c2, noBlk, noBlk, rfl, K_plain A _ _ _ _ _ hp.1 h1, K_plain B _ _ _ _ _ hp.2 h2, fun _ h => h.elim, fun _ h => h.elim, fun _ h => h.elim⟩
  | .st _ r, _, _, _, _, _, hp, h => by obtain ⟨h0, h1⟩ := h; exact ⟨h0, K_plain r _ _ _ _ _ hp h1⟩
  | .sl _, _, _, _, _, _, hp, _ => by simp [Ty.plain] at hp
  | .bx _, _, _, _, _, _, hp, _ => by simp [Ty.plain] at hp
  | .pt _, _, _, _, _, _, hp, _ => by simp [Ty.plain] at hp
structure Lies (C : Wd) (c : Ty) (e : Ow) (ys : List (D c)) (x : Value) (Sr : Nat → Blk) (rows : List (List Value)) : Prop where
  val : ∃ A cap, x = .slice A ys.length cap ∧ (ys ≠ [] → ∃ ad, A = some ad ∧ ∀ i r, rows[i]? = some r → At C.w ad (i * c.sz) r)
  len : rows.length = ys.length
  K : ∀ i v r, ys[i]? = some v → rows[i]? = some r → K C c e v r (Sr i)
theorem Lies.size {c : Ty} {e : Ow} {ys : List (D c)} {x : Value} {Sr : Nat → Blk} {rows : List (List Value)} (h : Lies C c e ys x Sr rows) : ∀ r ∈ rows, r.length = c.sz := by
  intro r hr
  obtain ⟨i, hi⟩ := List.mem_iff_getElem?.1 hr
  have : i < ys.length := by rw [← h.len]; exact (List.getElem?_eq_some_iff.1 hi).1
  exact K_len _ _ _ _ _ (h.K i _ r (List.getElem?_eq_getElem this) hi)
theorem Lies.one {c : Ty} {e : Ow} {ys : List (D c)} {x : Value} {Sr : Nat → Blk} {rows : List (List Value)} (h : Lies C c e ys x Sr rows) : ∀ u ∈ rows.flatten, u.oneCell' = true := by
  intro u hu
  obtain ⟨r, hr, hu⟩ := List.mem_flatten.1 hu
  obtain ⟨i, hi⟩ := List.mem_iff_getElem?.1 hr
  have : i < ys.length := by rw [← h.len]; exact (List.getElem?_eq_some_iff.1 hi).1
  exact K_one _ _ _ _ _ (h.K i _ r (List.getElem?_eq_getElem this) hi) u hu
theorem Lies.src {P : Program} {c : Ty} {e : Ow} {ys : List (D c)} {x : Value} {Sr : Nat → Blk} {rows : List (List Value)} (h : Lies C c e ys x Sr rows) {tx : TypeId} {el : TypeId} (hu : P.underlying tx = some (.slice el)) :
    Src P c.sz tx x ys.length rows.flatten C.w := by
  obtain ⟨A, cap, rfl, hA⟩ := h.val
  have hl := join_len rows h.size
  have hload : ∀ w' : World, (∀ ad : Addr, w'.cell? ad = C.w.cell? ad) → (Builtin.firstCells c.sz ys.length (.slice A ys.length cap)).run P w' = .ok rows.flatten.toArray w' := by
    intro w' hw
    by_cases h0 : ys = []
    · subst h0
      obtain rfl : rows = [] := List.eq_nil_of_length_eq_zero (by simpa using h.len)
      cases A <;> simp [Builtin.firstCells, loadCells, loadCellsFrom]
    · obtain ⟨ad, rfl, hat⟩ := hA h0
      simp only [Builtin.firstCells]
      rw [← h.len, ← hl]
      refine run_loadCells_list w' ad rows.flatten fun j v hj => ?_
      rw [hw]
      have := join_cells rows 0 h.size (fun i r hr => by simpa using hat i r hr) j v hj
      simpa using this
  exact ⟨.inl ⟨el, hu⟩, fun w' => by simp [Builtin.lenOf], hload C.w fun _ => rfl, hload C.w.drew fun _ => rfl, by rw [hl, h.len], h.one⟩
theorem lies_own (M : Mem C s s1 own) {n : Nat} {c : Ty} {v : D (.sl c)} {e : Ow} {p q : Nat} (h : s1 n = .live ⟨.sl c, v, .own e⟩ p q) :
    ∃ Sr rows, Lies C c e (show List (D c) from v) (C.μ n) Sr rows ∧ (∀ i k, Sr i k → own n k ∧ some k ≠ headOf (C.μ n)) ∧ (∀ i j k, Sr i k → Sr j k → i = j) := by
  rcases M.K n _ p q (M.sub n _ _ _ h) with ⟨hv, hcs⟩ | ⟨b, off, cap, X, te, hcs, _, hb, hX, _, Sr, h6, h7, h8⟩
  · have hv : v = [] := hv
    subst hv
    exact ⟨fun _ => noBlk, [], ⟨⟨none, 0, List.singleton_inj.1 hcs, fun h => absurd rfl h⟩, rfl, fun i v r h => by cases h⟩, fun _ _ h => h.elim, fun _ _ _ h => h.elim⟩
  · obtain ⟨rows, r1, r2⟩ := choose_rows (show List (D c) from v) 0 (P := fun i x r => K C c e x r (Sr i) ∧ At C.w ⟨b, off, none⟩ (i * c.sz) r) (fun i x hx => by simpa using h8 i x hx)
    have hm : C.μ n = _ := List.singleton_inj.1 hcs
    refine ⟨Sr, rows, ⟨⟨_, cap, hm, fun _ => ⟨_, rfl, fun i r hr => ?_⟩⟩, r1, fun i v r hv hr => by simpa using (r2 i v r hv hr).1⟩, fun i k hk => ⟨(h6 i k hk).1, by rw [hm]; simpa [headOf] using (h6 i k hk).2⟩, h7⟩
    have hlt : i < List.length (α := D c) v := by rw [← r1]; exact (List.getElem?_eq_some_iff.1 hr).1
    simpa using (r2 i _ r (List.getElem?_eq_getElem hlt) hr).2
theorem srcOf_Lies (M : Mem C s s1 own) {c : Ty} {x : KV} {u : Value} (hv : Val C s x u) {ys : List (D c)} {e : Ow} {g : List Nat} (h : srcOf s1 c x = some (ys, e, g)) :
    ∃ Sr rows, Lies C c e ys u Sr rows ∧ (∀ i k, Sr i k → ∃ m ∈ g, own m k) ∧ (∀ i j k, Sr i k → Sr j k → i = j) ∧ (∀ m ∈ g, (s1 m).lives) ∧ (∀ m, e.says m → s m ≠ .fresh) ∧ ∀ l ∈ e.lns, known s l := by
  unfold srcOf at h
  split at h
  · rename_i c0 v0 m
    split at h
    · rename_i c' ys' e' p q hm
      cases hcast : cast? (.sl c') (.sl c) ys' with
      | none => rw [hcast] at h; cases h
      | some ys2 =>
        rw [hcast] at h
        obtain ⟨e1, rfl⟩ := cast?_eq hcast
        injection e1 with e1
        subst e1
        have h := Option.some.inj h
        simp only [Prod.mk.injEq] at h
        obtain ⟨rfl, rfl, rfl⟩ := h
        obtain ⟨Sr, rows, h1, h2, h3⟩ := lies_own M hm
        have e4 : u = C.μ m := by
          have h : [u] = [C.μ m] ∧ _ := hv.kt
          exact List.singleton_inj.1 h.1
        have hlive := M.sub _ _ _ _ hm
        subst e4
        cases hp : c'.plain with
        | true =>
          exact ⟨fun _ => noBlk, rows, ⟨h1.val, h1.len, fun i v r hv hr => K_plain _ _ _ _ _ _ hp (h1.K i v r hv hr)⟩, fun _ _ h => h.elim, fun _ _ _ h => h.elim, by simp, M.says _ _ _ _ hlive, M.lns _ _ _ _ hlive⟩
        | false =>
          exact ⟨Sr, rows, h1, fun i k hk => ⟨m, by simp, (h2 i k hk).1⟩, h3, by simpa using ⟨_, _, _, hm⟩, M.says _ _ _ _ hlive, M.lns _ _ _ _ hlive⟩
    · cases h
  · rename_i c' xs ls
    cases hok : okLoans s1 ls with
    | false => rw [hok] at h; cases h
    | true =>
      rw [hok] at h
      simp only [cond_true] at h
      cases hcast : cast? (.sl c') (.sl c) xs with
      | none => rw [hcast] at h; cases h
      | some ys2 =>
        rw [hcast] at h
        obtain ⟨e1, rfl⟩ := cast?_eq hcast
        injection e1 with e1
        subst e1
        have h := Option.some.inj h
        simp only [Prod.mk.injEq] at h
        obtain ⟨rfl, rfl, rfl⟩ := h
        obtain ⟨y, hy, _, hrow⟩ := hv.kt
        have hy := List.singleton_inj.1 hy
        obtain ⟨A, cap, e1, e2, e3⟩ := hrow (M.ok _ hok)
        obtain rfl := hy.trans e1
        by_cases h0 : xs = []
        · subst h0
          exact ⟨fun _ => noBlk, [], ⟨⟨A, cap, rfl, fun h => absurd rfl h⟩, rfl, fun i v r h => by cases h⟩, fun _ _ h => h.elim, fun _ _ _ h => h.elim, by simp, fun m hm => (Ty.says_roOf _ _ _ hm).elim, fun l hl => hv.lns l (Ty.lns_roOf _ hl)⟩
        · obtain ⟨ad, rfl, e5, e6⟩ := e3 h0
          obtain ⟨rows, r1, r2⟩ := choose_rows (show List (D c') from xs) 0 (P := fun i x r => K C c' (c'.roOf ls) x r noBlk ∧ At C.w ad (i * c'.sz) r) (fun i x hx => by simpa using e6 i x hx)
          refine ⟨fun _ => noBlk, rows, ⟨⟨_, cap, rfl, fun _ => ⟨ad, rfl, fun i r hr => ?_⟩⟩, r1, fun i v r hv hr => (r2 i v r hv hr).1⟩, fun _ _ h => h.elim, fun _ _ _ h => h.elim, by simp, fun m hm => (Ty.says_roOf _ _ _ hm).elim, fun l hl => hv.lns l (Ty.lns_roOf _ hl)⟩
          have hlt : i < List.length (α := D c') xs := by rw [← r1]; exact (List.getElem?_eq_some_iff.1 hr).1
          simpa using (r2 i _ r (List.getElem?_eq_getElem hlt) hr).2
  · cases h
end Go.Proofs.YtlffjoabajdfnaaGreat.Eng
/- append, the machine's side. No condition. -/
set_option linter.unusedSectionVars false
set_option linter.unusedVariables false
namespace Go.Proofs.YtlffjoabajdfnaaGreat.Eng
open Go.RowKit (wrap64)
variable [Tys] [Rb] [Cx]
variable {F : Fr} {σ σ' : St} {a : Act} {w w' : World} {μ : Nat → Value} {own : Nat → Blk} {o : Oper} {s s1 : Nat → Slot} {C : Wd}
structure Apps (C : Wd) (c : Ty) (e : Ow) (zs : List (D c)) (B : Blk) (Sy : Nat → Blk) (x : Value) (w w' : World) (S : Blk) : Prop where
  os : w'.os = w.os ∧ w'.tape = w.tape ∧ w'.output = w.output
  size : w.heap.size ≤ w'.heap.size
  heap : ∀ b, b < w.heap.size → w'.heap[b]? ≠ w.heap[b]? → B b
  sub : ∀ b, S b → b < w'.heap.size ∧ (w.heap.size ≤ b ∨ B b ∨ ∃ i, Sy i b)
  K : ∀ C' : Wd, C'.w = w' → (∀ S' : Blk, (∀ b, S' b → w'.heap[b]? = w.heap[b]?) → Keeps C C' S' e.says (· ∈ e.lns)) → K C' (.sl c) (.own e) zs [x] S
def joinB (n : Nat) (Sx Sy : Nat → Blk) (i : Nat) : Blk := if i < n then Sx i else Sy (i - n)
theorem joinB_cases {n : Nat} {Sx Sy : Nat → Blk} {i k : Nat} (h : joinB n Sx Sy i k) : (i < n ∧ Sx i k) ∨ (n ≤ i ∧ Sy (i - n) k) := by
  unfold joinB at h
  split at h
  · exact .inl ⟨by assumption, h⟩
  · exact .inr ⟨by omega, h⟩
theorem joinB_disj {n : Nat} {Sx Sy : Nat → Blk} {B : Blk} (hx : ∀ i k, Sx i k → B k) (hy : ∀ i k, Sy i k → ¬ B k) (dx : ∀ i j k, Sx i k → Sx j k → i = j) (dy : ∀ i j k, Sy i k → Sy j k → i = j) :
    ∀ i j k, joinB n Sx Sy i k → joinB n Sx Sy j k → i = j := by
  intro i j k hi hj
  rcases joinB_cases hi with ⟨h1, h2⟩ | ⟨h1, h2⟩ <;> rcases joinB_cases hj with ⟨h3, h4⟩ | ⟨h3, h4⟩
  · exact dx i j k h2 h4
  · exact absurd (hx i k h2) (hy _ k h4)
  · exact absurd (hx j k h4) (hy _ k h2)
  · have := dy _ _ k h2 h4; omega
theorem setCells_setRow (g : Nat) (te : TypeId) : ∀ (vs : List Value) (off : Nat) (w : World) (X : Array Value), w.heap[g]? = some (.cells X te (0, 0)) → off + vs.length ≤ X.size →
    w.setCells g off vs = w.setRow g (X.toList.take off ++ vs ++ X.toList.drop (off + vs.length)).toArray
  | [], off, w, X, hg, _ => by
    simp only [World.setCells, List.append_nil, List.length_nil, Nat.add_zero, List.take_append_drop, Array.toArray_toList]
    exact (setRow_self w g X te (0, 0) hg).symm
  | v :: vs, off, w, X, hg, h => by
    simp only [World.setCells]
    rw [setCell_eq_setRow w g off X te (0, 0) v hg]
    rw [setCells_setRow g te vs (off + 1) (w.setRow g (X.setIfInBounds off v)) (X.setIfInBounds off v) (setRow_heap w g X _ te _ hg) (by simp at h ⊢; omega), setRow_setRow]
    congr 2
    have e := list_seg_step X.toList off v vs (by simp at h ⊢; omega)
    simpa [Array.toList_setIfInBounds, Nat.add_assoc, Nat.add_comm 1] using e
theorem app_core {t tx ty el : TypeId} {c : Ty} {e : Ow} {xs ys : List (D c)} {av xv : Value} {B : Blk} {Sy : Nat → Blk} {rowsY : List (List Value)} {i : TypeInfo} {z : Value} (hw : C.w = w)
    (hK : K C (.sl c) (.own e) xs [av] B) (hL : Lies C c e ys xv Sy rowsY) (hSy : ∀ i k, Sy i k → ¬ B k) (hdy : ∀ i j k, Sy i k → Sy j k → i = j) (hB : ∀ k, B k → k < w.heap.size) (hYlt : ∀ i k, Sy i k → k < w.heap.size)
    (ht : Cx.P.underlying t = some (.slice el)) (htx : ∃ e', Cx.P.underlying tx = some (.slice e')) (hi : Cx.P.info? el = some i) (hsz : i.size = c.sz) (hz : i.zero = some z) (hzs : z.cells.size = c.sz) (hb : (xs.length + ys.length) * i.bytes ≤ maxRow) (hb0 : xs.length + ys.length ≤ 9223372036854775807) :
    ∃ x' w' S, (Builtin.append_ #[t, tx] ty #[av, xv]).run Cx.P w = .ok x' w' ∧ Apps C c e (xs ++ ys) B Sy x' w w' S := by
  obtain ⟨e', htx⟩ := htx
  have hsrc := hL.src (P := Cx.P) htx
  rw [hw] at hsrc
  have hYsz := hL.size
  have hYlen : rowsY.flatten.length = ys.length * c.sz := by rw [join_len rowsY hYsz, hL.len]
  -- a new row
  have grow : ∀ (A : Option Addr) (sCap : Nat) (Sx : Nat → Blk) (rowsX : List (List Value)), av = .slice A xs.length sCap → sCap < xs.length + ys.length → Lies C c e xs av Sx rowsX →
      (∀ i k, Sx i k → B k) → (∀ i j k, Sx i k → Sx j k → i = j) → ∃ x' w' S, (Builtin.append_ #[t, tx] ty #[av, xv]).run Cx.P w = .ok x' w' ∧ Apps C c e (xs ++ ys) B Sy x' w w' S := by
    intro A sCap Sx rowsX hav hlt hX hXB hdx
    have hXsz := hX.size
    have hXlen : rowsX.flatten.length = xs.length * c.sz := by rw [join_len rowsX hXsz, hX.len]
    have hold := (hX.src (P := Cx.P) htx).cellsD
    rw [hw, hav] at hold
    have hrun := run_append_grow_src (P := Cx.P) (w := w) t tx ty el i z ht hi hz A xs.length sCap rowsX.flatten (by rw [hsz]; exact hold) xv ys.length rowsY.flatten (by rw [hsz]; exact hsrc) hlt (by omega)
      (growslice_fits hlt (by simpa [maxRow] using hb))
    rw [← hav] at hrun
    generalize hcap : grownCap w (xs.length + ys.length) sCap el = newCap at hrun
    have hcapge : xs.length + ys.length ≤ newCap := by
      rw [← hcap]; unfold grownCap Question.cut; exact Nat.le_add_right _ _
    generalize hY : (((rowsX.flatten ++ rowsY.flatten).toArray ++ Builtin.zeroCells z.cells (newCap - (xs.length + ys.length))) : Array Value) = Y at hrun
    have hYsize : Y.size = newCap * c.sz := by
      rw [← hY]
      simp only [Array.size_append, List.size_toArray, List.length_append, hXlen, hYlen, Builtin.zeroCells, Array.size_map, Array.size_range, hzs]
      rw [← Nat.add_mul, ← Nat.add_mul]
      congr 1
      omega
    have hjoin : rowsX.flatten ++ rowsY.flatten = (rowsX ++ rowsY).flatten := by simp
    have hrows : ∀ r ∈ rowsX ++ rowsY, r.length = c.sz := fun r hr => (List.mem_append.1 hr).elim (hXsz r) (hYsz r)
    have hnew : (w.drew.alloc (.cells Y el)).heap[w.heap.size]? = some (.cells Y el (0, 0)) := by
      show (w.heap.push _)[w.heap.size]? = _
      simp
    have holdb : ∀ b, b < w.heap.size → (w.drew.alloc (.cells Y el)).heap[b]? = w.heap[b]? := fun b hb => by
      show (w.heap.push _)[b]? = _
      simp [Array.getElem?_push, Nat.ne_of_lt hb]
    refine ⟨_, _, fun b => b = w.heap.size ∨ B b ∨ ∃ i, Sy i b, hrun, ⟨⟨rfl, rfl, rfl⟩, by show _ ≤ (w.heap.push _).size; simp, fun b hb h => absurd (holdb b hb) h, fun b hb => ?_, fun C' hC' hkeep => ?_⟩⟩
    · have hsize : (w.drew.alloc (.cells Y el)).heap.size = w.heap.size + 1 := by show (w.heap.push _).size = _; simp
      rw [hsize]
      rcases hb with rfl | hb | ⟨i, hb⟩
      · exact ⟨by omega, .inl (Nat.le_refl _)⟩
      · have := hB b hb; exact ⟨by omega, .inr (.inl hb)⟩
      · have := hYlt i b hb; exact ⟨by omega, .inr (.inr ⟨i, hb⟩)⟩
    · refine .inr ⟨w.heap.size, 0, newCap, Y, el, by rw [List.length_append], by rw [List.length_append]; exact hcapge, .inl rfl, by rw [hC']; exact hnew, by rw [hYsize]; omega,
        joinB xs.length Sx Sy, fun i k hk => ?_, joinB_disj hXB hSy hdx hdy, fun i v hv => ?_⟩
      · rcases joinB_cases hk with ⟨_, hk⟩ | ⟨_, hk⟩
        · have := hXB i k hk; exact ⟨.inr (.inl this), Nat.ne_of_lt (hB k this)⟩
        · exact ⟨.inr (.inr ⟨_, hk⟩), Nat.ne_of_lt (hYlt _ k hk)⟩
      · have hi : i < (xs ++ ys).length := (List.getElem?_eq_some_iff.1 hv).1
        obtain ⟨r, hr⟩ : ∃ r, (rowsX ++ rowsY)[i]? = some r := ⟨_, List.getElem?_eq_getElem (by rw [List.length_append, hX.len, hL.len, ← List.length_append]; exact hi)⟩
        refine ⟨r, ?_, fun j x hj => ?_⟩
        · by_cases hlt' : i < xs.length
          · unfold joinB; rw [if_pos hlt']
            rw [List.getElem?_append_left hlt'] at hv
            rw [List.getElem?_append_left (by rw [hX.len]; exact hlt')] at hr
            exact K_keep _ _ _ _ _ (hkeep _ fun b hb => holdb b (hB b (hXB i b hb))) (hX.K i v r hv hr)
          · unfold joinB; rw [if_neg hlt']
            rw [List.getElem?_append_right (by omega)] at hv
            rw [List.getElem?_append_right (by rw [hX.len]; omega), hX.len] at hr
            exact K_keep _ _ _ _ _ (hkeep _ fun b hb => holdb b (hYlt _ b hb)) (hL.K _ v r hv hr)
        · have h2 := join_at _ i r hrows hr j x hj
          have h3 := At.cells (off := 0) hnew (i * c.sz + j) x (by
            rw [List.drop_zero, ← hY]
            simp only [Array.toList_append]
            rw [hjoin, List.getElem?_append_left]
            · exact h2
            · exact (List.getElem?_eq_some_iff.1 h2).1)
          rw [Nat.zero_add] at h3
          rw [hC']
          exact h3
  rcases hK with ⟨hxs, hcs⟩ | ⟨b, off, cap, X, te, hcs, hcap, hbB, hX, hXsz, Sx, h6, h7, h8⟩
  · have hxs : xs = [] := hxs
    subst hxs
    have hav : av = .slice none 0 0 := List.singleton_inj.1 hcs
    have hXL : Lies C c e ([] : List (D c)) av (fun _ => noBlk) [] := ⟨⟨none, 0, hav, fun h => absurd rfl h⟩, rfl, fun i v r h => by cases h⟩
    by_cases h0 : ys = []
    · subst h0
      refine ⟨.slice none 0 0, w, noBlk, ?_, ⟨⟨rfl, rfl, rfl⟩, Nat.le_refl _, fun b _ h => absurd rfl h, fun b h => h.elim, fun C' _ _ => .inl ⟨rfl, rfl⟩⟩⟩
      have hr0 : rowsY = [] := List.eq_nil_of_length_eq_zero (by simpa using hL.len)
      subst hr0
      rw [hav]
      have := run_append_nothing (P := Cx.P) w t tx ty el i ht hi none 0 0 (Nat.le_refl 0) xv (by rw [hsz]; simpa using hsrc)
      simpa using this
    · have : 0 < ys.length := List.length_pos_iff.2 h0
      exact grow none 0 (fun _ => noBlk) [] hav (by simp; omega) hXL (fun _ _ h => h.elim) (fun _ _ _ h => h.elim)
  · have hav : av = .slice (some ⟨b, off, none⟩) xs.length cap := List.singleton_inj.1 hcs
    obtain ⟨rowsX, r1, r2⟩ := choose_rows xs 0 (P := fun i x r => K C c e x r (Sx i) ∧ At C.w ⟨b, off, none⟩ (i * c.sz) r) (fun i x hx => by simpa using h8 i x hx)
    have hXL : Lies C c e xs av Sx rowsX := ⟨⟨_, cap, hav, fun _ => ⟨_, rfl, fun i r hr => by
      have hlt : i < xs.length := by rw [← r1]; exact (List.getElem?_eq_some_iff.1 hr).1
      simpa using (r2 i _ r (List.getElem?_eq_getElem hlt) hr).2⟩⟩, r1, fun i v r hv hr => by simpa using (r2 i v r hv hr).1⟩
    by_cases hroom : xs.length + ys.length ≤ cap
    · generalize ho1 : off + xs.length * c.sz = o1
      have hmul : (xs.length + ys.length) * c.sz ≤ cap * c.sz := Nat.mul_le_mul_right _ hroom
      rw [Nat.add_mul] at hmul
      have hfit : o1 + rowsY.flatten.length ≤ X.size := by omega
      rw [hw] at hX
      have hrun := run_append_room_src (P := Cx.P) (w := w) t tx ty el i ht hi b off xs.length cap xv ys.length rowsY.flatten (by rw [hsz]; exact hsrc) hroom
        (fun j hj => by
          rw [hsz, ho1]
          simp only [World.cell?, hX, Option.isSome_none, Bool.false_eq_true, if_false]
          rw [Array.getElem?_eq_getElem (by omega)]; rfl)
        (fun j hj => by simp [World.frozen?, hX])
      rw [hsz, ho1, setCells_setRow b te _ _ _ _ hX hfit, ← hav] at hrun
      generalize hX' : (X.toList.take o1 ++ rowsY.flatten ++ X.toList.drop (o1 + rowsY.flatten.length)).toArray = X' at hrun
      have hX'l : X'.toList = X.toList.take o1 ++ (rowsY.flatten ++ X.toList.drop (o1 + rowsY.flatten.length)) := by rw [← hX']; simp [List.append_assoc]
      have hX's : X'.size = X.size := by rw [← Array.length_toList, hX'l]; simp only [List.length_append, List.length_take, List.length_drop, Array.length_toList]; omega
      have hnew : (w.setRow b X').heap[b]? = some (.cells X' te (0, 0)) := setRow_heap w b X X' te _ hX
      have hold : ∀ k, k ≠ b → (w.setRow b X').heap[k]? = w.heap[k]? := fun k hk => setRow_other w b k X' hk
      have hblt : b < w.heap.size := hB b hbB
      refine ⟨_, _, fun k => B k ∨ ∃ i, Sy i k, hrun, ⟨⟨rfl, rfl, rfl⟩, by simp, fun k hk h => ?_, fun k hk => ?_, fun C' hC' hkeep => ?_⟩⟩
      · by_cases e : k = b
        · subst e; exact hbB
        · exact absurd (hold k e) h
      · rw [setRow_size]
        rcases hk with hk | ⟨i, hk⟩
        · exact ⟨hB k hk, .inr (.inl hk)⟩
        · exact ⟨hYlt i k hk, .inr (.inr ⟨i, hk⟩)⟩
      · have hyb : ∀ i k, Sy i k → k ≠ b := fun i k hk e => hSy i k hk (e ▸ hbB)
        refine .inr ⟨b, off, cap, X', te, by rw [List.length_append], by rw [List.length_append]; exact hroom, .inl hbB, by rw [hC']; exact hnew, by rw [hX's]; exact hXsz,
          joinB xs.length Sx Sy, fun i k hk => ?_, joinB_disj (fun i k hk => (h6 i k hk).1) hSy h7 hdy, fun i v hv => ?_⟩
        · rcases joinB_cases hk with ⟨_, hk⟩ | ⟨_, hk⟩
          · exact ⟨.inl (h6 i k hk).1, (h6 i k hk).2⟩
          · exact ⟨.inr ⟨_, hk⟩, hyb _ k hk⟩
        · by_cases hlt' : i < xs.length
          · rw [List.getElem?_append_left hlt'] at hv
            obtain ⟨r, hr⟩ : ∃ r, rowsX[i]? = some r := ⟨_, List.getElem?_eq_getElem (by omega)⟩
            have hrK := hXL.K i v r hv hr
            have hrl := K_len _ _ _ _ _ hrK
            refine ⟨r, ?_, fun j x hj => ?_⟩
            · unfold joinB; rw [if_pos hlt']
              exact K_keep _ _ _ _ _ (hkeep _ fun k hk => hold k (h6 i k hk).2) hrK
            · have h1 := (r2 i v r hv hr).2
              simp only [Nat.zero_add] at h1
              have h2 := h1 j x hj
              rw [hw, add_plain'] at h2
              simp only [World.cell?, hX, Option.isSome_none, Bool.false_eq_true, if_false] at h2
              have hj' : j < r.length := (List.getElem?_eq_some_iff.1 hj).1
              have hm1 : (i + 1) * c.sz ≤ xs.length * c.sz := Nat.mul_le_mul_right _ (by omega)
              rw [Nat.succ_mul] at hm1
              rw [hC', add_plain']
              simp only [World.cell?, hnew, Option.isSome_none, Bool.false_eq_true, if_false]
              rw [← Array.getElem?_toList, hX'l, List.getElem?_append_left (by simp; omega), List.getElem?_take, if_pos (by omega)]
              simpa using h2
          · rw [List.getElem?_append_right (by omega)] at hv
            have hiy : i - xs.length < ys.length := (List.getElem?_eq_some_iff.1 hv).1
            obtain ⟨r, hr⟩ : ∃ r, rowsY[i - xs.length]? = some r := ⟨_, List.getElem?_eq_getElem (by rw [hL.len]; exact hiy)⟩
            refine ⟨r, ?_, fun j x hj => ?_⟩
            · unfold joinB; rw [if_neg hlt']
              exact K_keep _ _ _ _ _ (hkeep _ fun k hk => hold k (hyb _ k hk)) (hL.K _ v r hv hr)
            · have h2 := join_at _ _ r hYsz hr j x hj
              have h3 : (i - xs.length) * c.sz + j < rowsY.flatten.length := (List.getElem?_eq_some_iff.1 h2).1
              have e1 : off + (i * c.sz + j) = o1 + ((i - xs.length) * c.sz + j) := by
                have : i * c.sz = xs.length * c.sz + (i - xs.length) * c.sz := by rw [← Nat.add_mul]; congr 1; omega
                omega
              rw [hC', add_plain', e1]
              simp only [World.cell?, hnew, Option.isSome_none, Bool.false_eq_true, if_false]
              have ht1 : (X.toList.take o1).length = o1 := by simp; omega
              rw [← Array.getElem?_toList, hX'l, List.getElem?_append_right (by omega), ht1, Nat.add_sub_cancel_left, List.getElem?_append_left h3]
              exact h2
    · exact grow _ cap Sx rowsX hav (by omega) hXL (fun i k hk => (h6 i k hk).1) h7
end Go.Proofs.YtlffjoabajdfnaaGreat.Eng
/- append. No condition. -/
set_option linter.unusedSectionVars false
set_option linter.unusedVariables false
namespace Go.Proofs.YtlffjoabajdfnaaGreat.Eng
open Go.RowKit (wrap64)
variable [Tys] [Rb] [Cx]
variable {nb : Nat}
variable {F : Fr} {σ σ' : St} {a : Act} {w w' : World} {μ : Nat → Value} {own : Nat → Blk} {o : Oper} {s s1 : Nat → Slot} {C : Wd}
theorem Mem.gone (M : Mem C s s1 own) {n : Nat} (hn : (s1 n).lives) : Mem C s (slotSet s1 n .gone) own := by
  have l := Less.one hn
  refine ⟨fun m kv p q h => M.sub m kv p q (l.live h).1, fun ls h => M.ok ls ?_, M.K, M.says, M.lns⟩
  simp only [okLoans, List.all_eq_true] at h ⊢
  intro x hx
  have := h x hx
  unfold okLoan at this ⊢
  cases hb : Nat.ble PAR x.1 with
  | true => rfl
  | false =>
    simp only [hb, Bool.false_or] at this ⊢
    cases e : slotSet s1 n .gone x.1 with
    | fresh => rw [e] at this; cases this
    | gone => rw [e] at this; cases this
    | live kv p q => rw [(l.live e).1]; rw [e] at this; exact this
theorem run_appendOp {c : Call} {a0 x0 : Operand} {t tx : TypeId} (ho : o.op = .call c) (hc : c.callee = .builtin .append) (ha : c.args.toList = [a0, x0]) (ht : c.argTypes.toList = [t, tx]) {x : Value}
    (h : (Builtin.append_ #[t, tx] o.type #[a.eval a0, a.eval x0]).run Cx.P w = .ok x w') : (execOp a.eval o).run Cx.P w = .ok (.value x) w' := by
  have hargs : c.args = #[a0, x0] := by rw [← Array.toArray_toList (xs := c.args), ha]
  have hts : c.argTypes = #[t, tx] := by rw [← Array.toArray_toList (xs := c.argTypes), ht]
  simp only [execOp, ho, resolve, hc, Sem.run_bind, Sem.run_pure, Result.andThen_ok, invoke, hargs, hts, List.map_toArray, List.map_cons, List.map_nil, builtin, h]
theorem K_empty {c : Ty} {e e' : Ow} {cs : List Value} {S : Blk} (h : K C (.sl c) (.own e) ([] : List (D c)) cs S) : K C (.sl c) (.own e') ([] : List (D c)) cs S := by
  rcases h with h | ⟨b, off, cap, X, te, h1, h2, h3, h4, h5, Sr, h6, h7, h8⟩
  · exact .inl h
  · exact .inr ⟨b, off, cap, X, te, h1, h2, h3, h4, h5, Sr, h6, h7, fun i x hx => by simp at hx⟩
theorem srcOf_plain {s : Nat → Slot} {c : Ty} {x : KV} {ys : List (D c)} {e : Ow} {g : List Nat} (hp : c.plain = true) (h : srcOf s c x = some (ys, e, g)) : g = [] := by
  unfold srcOf at h
  split at h
  · split at h
    · obtain ⟨z, hz, h⟩ := Option.map_eq_some_iff.1 h
      rw [hp] at h
      injection h with _ h
      injection h with _ h
      exact h.symm
    · cases h
  · rename_i ls
    cases hb : okLoans s ls with
    | false => rw [hb] at h; cases h
    | true =>
      rw [hb] at h
      obtain ⟨z, hz, h⟩ := Option.map_eq_some_iff.1 h
      injection h with _ h
      injection h with _ h
      exact h.symm
  · cases h
theorem nilB_eq {α : Type} {xs : List α} (h : nilB xs = true) : xs = [] := by cases xs <;> first | rfl | cases h
theorem sim_append (G : Good) (I : Inv F σ a w μ own) (hf : Fits F a o) {T : List Nat} {c : Call} {a0 x0 : Operand} {t tx : TypeId} (ho : o.op = .call c) (hc : c.callee = .builtin .append) (ha : c.args.toList = [a0, x0]) (ht : c.argTypes.toList = [t, tx])
    {ty : Ty} {eb : Nat} (h1 : Cx.TB t = some ⟨.sl ty, eb⟩) {u : Ty} (h2 : tyOf tx = some (.sl u)) (hfl : ty.flat = true) (heb : 0 < eb) {p q : KV} (hp : Val (ctx σ.sto w μ own) σ.sto p (a.eval a0)) (hq : Val (ctx σ.sto w μ own) σ.sto q (a.eval x0)) {e : Eff}
    (he : appendR nb (within σ.sto T) ty eb p q = .eff e) (hcs : ∀ b ∈ e.conds, b = true) : Sim F σ a w o e := by
  obtain ⟨⟨el, hu, _, hTe⟩, hinf⟩ := G.tb t _ h1
  obtain ⟨el', i, hu', hi, hbytes⟩ := hinf ty rfl
  have : el' = el := by rw [hu] at hu'; cases hu'; rfl
  subst this
  obtain ⟨i', i1, i2, i3⟩ := hTe.inf
  have : i' = i := by rw [i1] at hi; cases hi; rfl
  subst this
  obtain ⟨z, z1, z2⟩ := i3 hfl
  have hzs : z.cells.size = ty.sz := by
    have := K_len _ _ _ _ _ (K_zeros (C := ctx σ.sto w μ own) G ty hfl)
    rw [← z2] at this
    simpa using this
  have htx : ∃ e', Cx.P.underlying tx = some (.slice e') := by obtain ⟨e', h, _⟩ := tyOf_TD G h2; exact ⟨e', h⟩
  have M := I.mem T
  have blt : ∀ n, (σ.sto n).lives → ∀ k, own n k → k < w.heap.size := fun n ⟨kv, p, q, e⟩ k hk => (I.bound n kv p q e k hk).1
  have len_ok : ∀ n : Nat, n * eb ≤ maxRow → n ≤ 9223372036854775807 := fun n h => by
    have : n * 1 ≤ n * eb := Nat.mul_le_mul_left n heb
    unfold maxRow at h
    omega
  -- what both cases come to
  have main : ∀ (xs ys : List (D ty)) (e1 : Ow) (B : Blk) (g : List Nat) (Sy : Nat → Blk) (rowsY : List (List Value)) (cs : List Bool), K (ctx σ.sto w μ own) (.sl ty) (.own e1) xs [a.eval a0] B → Lies (ctx σ.sto w μ own) ty e1 ys (a.eval x0) Sy rowsY →
      (∀ i k, Sy i k → ¬ B k) → (∀ i j k, Sy i k → Sy j k → i = j) → (∀ k, B k → ∃ n ∈ g, own n k) → (∀ i k, Sy i k → ∃ n ∈ g, own n k) → (∀ n ∈ g, (σ.sto n).lives) → (xs.length + ys.length) * eb ≤ maxRow →
      (∀ m, e1.says m → σ.sto m ≠ .fresh) → (∀ l ∈ e1.lns, known σ.sto l) → Sim F σ a w o (Eff.named nb cs (goneAll g) ⟨.sl ty, xs ++ ys, .own e1⟩) := by
    intro xs ys e1 B g Sy rowsY cs hK hL hSy hdy hB hSg hg hlen hsays hlns
    have hBlt : ∀ k, B k → k < w.heap.size := fun k hk => by obtain ⟨n, hn, h⟩ := hB k hk; exact blt n (hg n hn) k h
    have hYlt : ∀ i k, Sy i k → k < w.heap.size := fun i k hk => by obtain ⟨n, hn, h⟩ := hSg i k hk; exact blt n (hg n hn) k h
    obtain ⟨x', w', S, hrun, A⟩ := app_core (ty := o.type) (C := ctx σ.sto w μ own) (w := w) rfl hK hL hSy hdy hBlt hYlt hu htx i1 i2 z1 hzs (by rw [hbytes]; exact hlen) (len_ok _ hlen)
    have T0 := turn_gone I hg A.size (fun b hb h => hB b (A.heap b hb h))
    refine sim_named (S := S) I hf (run_appendOp ho hc ha ht hrun) hg A.os A.size (fun b hb h => hB b (A.heap b hb h)) ?_ hsays hlns fun b hb => ?_
    · exact A.K _ rfl fun S' hS' => T0.mid (μ' := μ) I.low hS' hlns
    · obtain ⟨h3, h4⟩ := A.sub b hb
      exact ⟨h3, h4.imp id fun h => h.elim (hB b) fun ⟨i, h⟩ => hSg i b h⟩
  unfold appendR at he
  split at he
  · rename_i c0 v0 n
    split at he
    · rename_i c' xs e1 pp qq hn
      split at he
      · rename_i xs2 ys e2 g hcast hsrc
        obtain ⟨ee, rfl⟩ := cast?_eq hcast
        injection ee with ee
        subst ee
        have hlive := M.sub _ _ _ _ hn
        have e4 : a.eval a0 = μ n := by
          have h : [a.eval a0] = [μ n] ∧ _ := hp.kt
          exact List.singleton_inj.1 h.1
        obtain ⟨Sy, rowsY, hL, s1', s2', hgl, s4', s5'⟩ : ∃ Sy rowsY, Lies (ctx σ.sto w μ own) c' e2 ys (a.eval x0) Sy rowsY ∧ (∀ i k, Sy i k → ∃ n ∈ g, own n k) ∧ (∀ i j k, Sy i k → Sy j k → i = j) ∧
            (∀ m ∈ g, (σ.sto m).lives ∧ m ≠ n) ∧ (∀ m, e2.says m → σ.sto m ≠ .fresh) ∧ (∀ l ∈ e2.lns, known σ.sto l) := by
          cases hpl : c'.plain with
          | true =>
            rw [hpl] at hsrc
            obtain ⟨Sy, rowsY, hL, s1', s2', s3', s4', s5'⟩ := srcOf_Lies M hq hsrc
            have hg := srcOf_plain hpl hsrc
            exact ⟨Sy, rowsY, hL, s1', s2', (fun m hm => by rw [hg] at hm; cases hm), s4', s5'⟩
          | false =>
            rw [hpl] at hsrc
            obtain ⟨Sy, rowsY, hL, s1', s2', s3', s4', s5'⟩ := srcOf_Lies (M.gone ⟨_, _, _, hn⟩) hq hsrc
            refine ⟨Sy, rowsY, hL, s1', s2', fun m hm => ?_, s4', s5'⟩
            obtain ⟨kv, p, q, e⟩ := s3' m hm
            have := (Less.one (s := within σ.sto T) ⟨_, _, _, hn⟩).live e
            exact ⟨⟨kv, p, q, M.sub _ _ _ _ this.1⟩, this.2⟩
        have hK : K (ctx σ.sto w μ own) (.sl c') (.own e1) xs [μ n] (own n) := M.K _ _ _ _ hlive
        have fin : ∀ e3 cs, cs = [Nat.ble ((List.length (α := D c') xs + ys.length) * eb) maxRow] → (∀ b ∈ cs, b = true) → e3 = e2 → K (ctx σ.sto w μ own) (.sl c') (.own e3) xs [a.eval a0] (own n) → Sim F σ a w o (Eff.named nb cs (goneAll (n :: g)) ⟨.sl c', List.append (α := D c') xs ys, .own e3⟩) := by
          intro e3 cs hcs hcs' he3 hK'
          subst he3
          refine main xs ys e3 (own n) (n :: g) Sy rowsY cs hK' hL (fun i k hk => ?_) s2' (fun k hk => ⟨n, List.mem_cons_self, hk⟩) (fun i k hk => ?_) (fun m hm => ?_) ?_ s4' s5'
          · obtain ⟨m, hm, h⟩ := s1' i k hk
            exact I.ents.disj m n (hgl m hm).1 ⟨_, _, _, hlive⟩ (hgl m hm).2 k h
          · obtain ⟨m, hm, h⟩ := s1' i k hk
            exact ⟨m, List.mem_cons_of_mem _ hm, h⟩
          · rcases List.mem_cons.1 hm with rfl | hm
            · exact ⟨_, _, _, hlive⟩
            · exact (hgl m hm).1
          · subst hcs
            exact Nat.le_of_ble_eq_true (all1 hcs')
        rw [← e4] at hK
        cases hbq : e1.beq e2 with
        | true =>
          rw [hbq] at he
          cases he
          exact fin e1 _ rfl hcs (Ow.beq_eq hbq) hK
        | false =>
          rw [hbq] at he
          cases hnil : nilB (α := D c') xs with
          | false => rw [hnil] at he; cases he
          | true =>
            rw [hnil] at he
            cases he
            have := nilB_eq hnil
            subst this
            exact fin e2 _ rfl hcs rfl (K_empty hK)
      · cases he
    · cases he
  · rename_i c0 v0 e0
    split at he
    · rename_i ys e2 g hsrc
      cases he
      obtain ⟨Sy, rowsY, hL, s1', s2', s3', s4', s5'⟩ := srcOf_Lies M hq hsrc
      have hnil : a.eval a0 = .slice none 0 0 := by
        rcases hp.kt with ⟨_, h⟩ | ⟨b, off, cap, X, te, _, _, h, _⟩
        · exact List.singleton_inj.1 h
        · exact h.elim
      have := main [] ys e2 noBlk g Sy rowsY [Nat.ble (ys.length * eb) maxRow] (.inl ⟨rfl, by rw [hnil]⟩) hL (fun _ _ _ h => h) s2' (fun _ h => h.elim) s1' (fun m hm => by obtain ⟨kv, p, q, e⟩ := s3' m hm; exact ⟨kv, p, q, M.sub _ _ _ _ e⟩)
        (by simpa using Nat.le_of_ble_eq_true (all1 hcs)) s4' s5'
      simpa using this
    · cases he
  · cases he
end Go.Proofs.YtlffjoabajdfnaaGreat.Eng
/- Stores. No condition. -/
set_option linter.unusedSectionVars false
set_option linter.unusedVariables false
namespace Go.Proofs.YtlffjoabajdfnaaGreat.Eng
open Go.RowKit (wrap64)
variable [Tys] [Rb] [Cx]
variable {F : Fr} {σ σ' : St} {a : Act} {w w' : World} {μ : Nat → Value} {own : Nat → Blk} {o : Oper} {s s1 : Nat → Slot} {C : Wd}
def setS (s : Nat → Slot) (n : Nat) (x : Slot) (g : List Nat) : Nat → Slot := updAll (slotSet s n x) (goneAll g)
theorem setS_at {s : Nat → Slot} {n : Nat} {x : Slot} {g : List Nat} (m : Nat) : setS s n x g m = if m ∈ g then .gone else if m = n then x else s m := by
  unfold setS
  rw [updAll_gone]
  by_cases h : m ∈ g
  · simp [h]
  · by_cases e : m = n
    · subst e; simp [h, slotSet]
    · simp [h, e, slotSet, beq_ne e]
def setO (own : Nat → Blk) (n : Nat) (g : List Nat) : Nat → Blk := fun m b => own m b ∨ (m = n ∧ ∃ k ∈ g, own k b)
structure Wrt (σ : St) (w w' : World) (μ : Nat → Value) (own : Nat → Blk) (n : Nat) (kv : KV) (p q : Nat) (g : List Nat) (b : Nat) : Prop where
  live : σ.sto n = .live kv p q
  g : ∀ m ∈ g, (σ.sto m).lives ∧ m ≠ n
  size : w'.heap.size = w.heap.size
  os : w'.os = w.os ∧ w'.tape = w.tape ∧ w'.output = w.output
  heap : ∀ k, k ≠ b → w'.heap[k]? = w.heap[k]?
  own : own n b
  head : headOf (μ n) = some b
section
variable {n : Nat} {kv kv' : KV} {p q : Nat} {g : List Nat} {b : Nat}
theorem Wrt.turn (I : Inv F σ a w μ own) (W : Wrt σ w w' μ own n kv p q g b) : Turn σ.sto (setS σ.sto n (.live kv' (p + 1) q) g) w w' μ μ own (setO own n g) := by
  have hng : n ∉ g := fun h => (W.g n h).2 rfl
  refine ⟨Nat.le_of_eq W.size.symm, fun _ _ => rfl, fun m hm => ?_, fun k hk hch => ?_, fun m kv1 p1 q1 hm k hk ho => ?_⟩
  · rw [setS_at]
    by_cases h : m ∈ g
    · rw [if_pos h]; exact .inr (.inl rfl)
    · rw [if_neg h]
      by_cases e : m = n
      · subst e; rw [if_pos rfl]; exact .inr (.inr ⟨_, _, _, _, _, _, W.live, rfl, Nat.lt_succ_self _, Nat.le_refl _⟩)
      · rw [if_neg e]; exact .inl rfl
  · have hkb : k = b := Classical.byContradiction fun h => hch (W.heap k h)
    subst hkb
    refine ⟨n, kv, p, q, W.live, W.own, .inr ⟨kv', p + 1, q, ?_, Nat.lt_succ_self _, .inr W.head⟩⟩
    rw [setS_at, if_neg hng, if_pos rfl]
  · rw [setS_at] at hm
    by_cases h : m ∈ g
    · rw [if_pos h] at hm; cases hm
    · rw [if_neg h] at hm
      rcases ho with ho | ⟨rfl, j, hj, ho⟩
      · by_cases e : m = n
        · subst e; exact ⟨m, kv, p, q, W.live, ho, .inl rfl⟩
        · rw [if_neg e] at hm; exact ⟨m, _, _, _, hm, ho, .inl rfl⟩
      · obtain ⟨⟨kv2, p2, q2, e2⟩, _⟩ := W.g j hj
        exact ⟨j, kv2, p2, q2, e2, ho, .inr (.inl (by rw [setS_at, if_pos hj]))⟩
theorem Wrt.inv (I : Inv F σ a w μ own) (W : Wrt σ w w' μ own n kv p q g b)
    (hK : K (ctx (setS σ.sto n (.live kv' (p + 1) q) g) w' μ (setO own n g)) kv'.t kv'.o kv'.v [μ n] (setO own n g n)) (hsays : ∀ m, kv'.o.says m → σ.sto m ≠ .fresh) (hlns : ∀ l ∈ kv'.o.lns, known σ.sto l) :
    Inv F ⟨σ.env, setS σ.sto n (.live kv' (p + 1) q) g⟩ a w' μ (setO own n g) := by
  have T : Turn σ.sto (setS σ.sto n (.live kv' (p + 1) q) g) w w' μ μ own (setO own n g) := W.turn I
  have hng : n ∉ g := fun h => (W.g n h).2 rfl
  have live : ∀ m kv1 p1 q1, setS σ.sto n (.live kv' (p + 1) q) g m = .live kv1 p1 q1 → m ∉ g ∧ ((m = n ∧ kv1 = kv') ∨ (m ≠ n ∧ σ.sto m = .live kv1 p1 q1)) := fun m kv1 p1 q1 h => by
    rw [setS_at] at h
    by_cases h1 : m ∈ g
    · rw [if_pos h1] at h; cases h
    · rw [if_neg h1] at h
      refine ⟨h1, ?_⟩
      by_cases e : m = n
      · rw [if_pos e] at h; cases h; exact .inl ⟨e, rfl⟩
      · rw [if_neg e] at h; exact .inr ⟨e, h⟩
  have own_ne : ∀ m, m ≠ n → setO own n g m = own m := fun m hm => funext fun k => propext ⟨fun h => h.resolve_right fun h => hm h.1, .inl⟩
  refine I.turn T W.os (fun m hm => ?_) (fun m kv1 p1 q1 h he => ?_) (fun m kv1 p1 q1 h he => ?_) (fun m1 m2 ⟨kv1, p1, q1, e1⟩ ⟨kv2, p2, q2, e2⟩ hne k => ?_)
  · have := I.low m hm
    rw [setS_at, if_neg, if_neg, this]
    · intro e; subst e; rw [W.live] at this; cases this
    · intro h; obtain ⟨_, _, _, e⟩ := (W.g m h).1; rw [this] at e; cases e
  · rcases (live _ _ _ _ h).2 with ⟨rfl, _⟩ | ⟨e, _⟩
    · rw [h, W.live] at he; 
      rw [setS_at, if_neg hng, if_pos rfl] at h
      cases h; cases he
    · exact own_ne m e
  · rcases (live _ _ _ _ h).2 with ⟨rfl, rfl⟩ | ⟨e, h1⟩
    · refine ⟨hK, fun k hk => ?_, fun j hj => fresh_turn T (hsays j hj), fun l hl => known_turn T (hlns l hl)⟩
      rw [W.size]
      rcases hk with hk | ⟨_, j, hj, hk⟩
      · exact I.bound _ _ _ _ W.live k hk
      · obtain ⟨⟨kv2, p2, q2, e2⟩, _⟩ := W.g j hj
        exact I.bound _ _ _ _ e2 k hk
    · exact absurd (h.trans h1.symm) he
  · have key : ∀ m1 m2 kv1 p1 q1 kv2 p2 q2, setS σ.sto n (.live kv' (p + 1) q) g m1 = .live kv1 p1 q1 → setS σ.sto n (.live kv' (p + 1) q) g m2 = .live kv2 p2 q2 → m1 ≠ m2 → m2 ≠ n → setO own n g m1 k → ¬ own m2 k := by
      intro m1 m2 kv1 p1 q1 kv2 p2 q2 e1 e2 hne hn hk hk2
      obtain ⟨g2, h2⟩ := live _ _ _ _ e2
      have h3 := (h2.resolve_left fun h => hn h.1).2
      clear h2
      rcases hk with hk | ⟨rfl, j, hj, hk⟩
      · have l1 : (σ.sto m1).lives := by
          rcases (live _ _ _ _ e1).2 with ⟨rfl, _⟩ | ⟨_, h⟩
          · exact ⟨_, _, _, W.live⟩
          · exact ⟨_, _, _, h⟩
        exact I.ents.disj m1 m2 l1 ⟨_, _, _, h3⟩ hne k hk hk2
      · exact I.ents.disj j m2 (W.g j hj).1 ⟨_, _, _, h3⟩ (fun e => g2 (e ▸ hj)) k hk hk2
    intro h1 h2
    by_cases hn : m2 = n
    · have hn1 : m1 ≠ n := fun e => hne (e.trans hn.symm)
      rw [own_ne m1 hn1] at h1
      exact key m2 m1 _ _ _ _ _ _ e2 e1 (Ne.symm hne) hn1 h2 h1
    · rw [own_ne m2 hn] at h2
      exact key m1 m2 _ _ _ _ _ _ e1 e2 hne hn h1 h2
theorem sim_wrt (I : Inv F σ a w μ own) (W : Wrt σ w w' μ own n kv p q g b) (hf : Fits F a o) (hr : (execOp a.eval o).run Cx.P w = .ok .skip w')
    (hK : K (ctx (setS σ.sto n (.live kv' (p + 1) q) g) w' μ (setO own n g)) kv'.t kv'.o kv'.v [μ n] (setO own n g n)) (hsays : ∀ m, kv'.o.says m → σ.sto m ≠ .fresh) (hlns : ∀ l ∈ kv'.o.lns, known σ.sto l) :
    Sim F σ a w o ⟨[], some KV.nil, (n, .live kv' (p + 1) q) :: goneAll g, []⟩ := by
  intro σ' ha
  refine ⟨undef, .skip, w', hr, .inr ⟨rfl, rfl⟩, μ, setO own n g, ?_⟩
  have I' := W.inv I hK hsays hlns
  have e : updAll σ.sto ((n, .live kv' (p + 1) q) :: goneAll g) = setS σ.sto n (.live kv' (p + 1) q) g := rfl
  simp only [Eff.apply, List.all_nil, cond_true, List.foldl_nil, e] at ha
  cases hd : o.dst with
  | none => rw [hd] at ha; obtain rfl := Option.some.inj ha; exact I'
  | some d =>
    rw [hd] at ha
    obtain rfl := Option.some.inj ha
    exact I'.put (kv := some KV.nil) (hf d hd) fun kv' he => by
      obtain rfl := Option.some.inj he
      exact ⟨rfl, fun _ h => h.elim, fun _ h => by cases h⟩
end
/-! ### Into a box -/
theorem run_store {t : TypeId} {ptr x : Operand} {ty : Ty} (ho : o.op = .store t ptr x) (hT : TD Cx.P ty t) {b off : Nat} (hp : a.eval ptr = .pointer (some ⟨b, off, none⟩)) {X : Array Value} {te : TypeId} (hl : (a.eval x).cells.size = ty.sz)
    (hg : w.heap[b]? = some (.cells X te (0, 0))) (hx : off + ty.sz ≤ X.size) (h1 : ∀ v ∈ (a.eval x).cells.toList, v.oneCell' = true) :
    (execOp a.eval o).run Cx.P w = .ok .skip (w.setRow b (X.toList.take off ++ (a.eval x).cells.toList ++ X.toList.drop (off + ty.sz)).toArray) := by
  have := run_storeVar (w := w) hT (x := a.eval x) hl hg (by rw [hl]; exact hx) h1
  rw [hl] at this
  simp only [execOp, ho, hp, Instr.storeAt, Instr.sureAddr, Sem.run_bind, Sem.run_pure, Result.andThen_ok, this]
theorem sim_store_box (I : Inv F σ a w μ own) (hf : Fits F a o) {t : TypeId} {ptr x : Operand} {ty : Ty} (ho : o.op = .store t ptr x) (hT : TD Cx.P ty t) {kv : KV} (hkv : kv.t = ty) (hv : Val (ctx σ.sto w μ own) σ.sto kv (a.eval x))
    {n : Nat} {c : Ty} {v : D c} {e : Ow} {p q : Nat} (hn : σ.sto n = .live ⟨.bx c, v, .own e⟩ p q) {b off : Nat} (hμ : μ n = .pointer (some ⟨b, 0, none⟩)) (hptr : a.eval ptr = .pointer (some ⟨b, off, none⟩)) {y : D c × Ow} (hy : setAt c e v off kv = some y) :
    Sim F σ a w o ⟨[], some KV.nil, [(n, .live ⟨.bx c, y.1, .own y.2⟩ (p + 1) q)], []⟩ := by
  subst hkv
  obtain ⟨b', S', hcs, hb, ⟨X, te, hX, hK⟩, hS'⟩ := I.ents.K n _ p q hn
  have hbb : b' = b := by
    have h : [μ n] = [Value.pointer (some ⟨b', 0, none⟩)] := hcs
    rw [hμ] at h
    cases h; rfl
  subst hbb
  have hk := KT0_cells ((KT_one hT.one).1 hv.kt)
  have hlen := K_len _ _ _ _ _ hk.1
  have hsz : (a.eval x).cells.size = kv.t.sz := by simpa using hlen
  obtain ⟨g1, g2, g3⟩ := setAt_K _ _ _ _ _ _ _ _ _ _ hy hK hk.1 (fun _ _ h => h.elim)
  have hrun := run_store (a := a) (w := w) ho hT hptr hsz hX (by simpa using g1) (K_one _ _ _ _ _ hk.1)
  have W : Wrt σ w (w.setRow b' (X.toList.take off ++ (a.eval x).cells.toList ++ X.toList.drop (off + kv.t.sz)).toArray) μ own n ⟨.bx c, v, .own e⟩ p q [] b' :=
    ⟨hn, fun m h => by simp at h, setRow_size _ _ _, ⟨rfl, rfl, rfl⟩, fun k hk => setRow_other _ _ _ _ hk, hb, by rw [hμ]; rfl⟩
  have T : Turn σ.sto (setS σ.sto n (.live ⟨.bx c, y.1, .own y.2⟩ (p + 1) q) []) w _ μ μ own (setO own n []) := W.turn I
  have hsays : ∀ m, y.2.says m → σ.sto m ≠ .fresh := fun m hm => (g3 m hm).elim (fun h => I.saysS n _ p q hn m h) (hv.says m)
  have hlns : ∀ l ∈ y.2.lns, known σ.sto l := fun l hl => (setAt_lns _ _ _ _ _ _ hy l hl).elim (fun h => I.lnsS n _ p q hn l h) (hv.lns l)
  refine sim_wrt (kv' := ⟨.bx c, y.1, .own y.2⟩) I W hf hrun ⟨b', _, hcs, .inl hb, ⟨_, te, setRow_heap _ _ _ _ _ _ hX, K_keep _ _ _ _ _ (T.keeps I.low (fun k hk => ?_) hsays hlns) g2⟩, fun k hk => ?_⟩ hsays hlns
  · exact W.heap k (hk.elim (fun h => (hS' k h).2) (fun h => h.elim))
  · exact hk.elim (fun h => ⟨.inl (hS' k h).1, (hS' k h).2⟩) (fun h => h.elim)
end Go.Proofs.YtlffjoabajdfnaaGreat.Eng
/- Stores into rows; all stores. No condition. -/
set_option linter.unusedSectionVars false
set_option linter.unusedVariables false
namespace Go.Proofs.YtlffjoabajdfnaaGreat.Eng
open Go.RowKit (wrap64)
variable [Tys] [Rb] [Cx]
variable {F : Fr} {σ σ' : St} {a : Act} {w w' : World} {μ : Nat → Value} {own : Nat → Blk} {o : Oper} {s s1 : Nat → Slot} {C : Wd}
theorem splice_at {X xs : List Value} {k j : Nat} (h : k + xs.length ≤ X.length) : (X.take k ++ xs ++ X.drop (k + xs.length))[j]? = if j < k then X[j]? else if j < k + xs.length then xs[j - k]? else X[j]? := by
  by_cases h1 : j < k
  · rw [if_pos h1, List.append_assoc, List.getElem?_append_left (by simp; omega), List.getElem?_take_of_lt h1]
  · rw [if_neg h1]
    by_cases h2 : j < k + xs.length
    · rw [if_pos h2, List.getElem?_append_left (by simp; omega), List.getElem?_append_right (by simp; omega)]
      congr 1
      simp; omega
    · rw [if_neg h2, List.getElem?_append_right (by simp; omega), List.getElem?_drop]
      congr 1
      simp; omega
theorem cell_block {w : World} {b j : Nat} {X : Array Value} {te : TypeId} (h : w.heap[b]? = some (.cells X te (0, 0))) : w.cell? ⟨b, j, none⟩ = X[j]? := by
  simp only [World.cell?, h, Option.isSome_none, Bool.false_eq_true, if_false]
theorem At.wrt {w w' : World} {b o i off : Nat} {X : Array Value} {te : TypeId} {ys xs : List Value} (hX : w.heap[b]? = some (.cells X te (0, 0))) (h : At w ⟨b, o, none⟩ i ys) (h1 : off + xs.length ≤ ys.length)
    (h2 : o + i + ys.length ≤ X.size) (hw : w'.heap[b]? = some (.cells (X.toList.take (o + i + off) ++ xs ++ X.toList.drop (o + i + off + xs.length)).toArray te (0, 0))) :
    At w' ⟨b, o, none⟩ i (ys.take off ++ xs ++ ys.drop (off + xs.length)) := by
  intro j x hj
  rw [add_plain', cell_block hw]
  simp only [List.getElem?_toArray]
  rw [splice_at (by simp; omega)]
  rw [splice_at (by omega)] at hj
  have old : ys[j]? = some x → X.toList[o + (i + j)]? = some x := fun hy => by
    have := h j x hy
    rw [add_plain', cell_block hX] at this
    simpa using this
  by_cases e1 : j < off
  · rw [if_pos e1] at hj; rw [if_pos (by omega)]; exact old hj
  · rw [if_neg e1] at hj
    rw [if_neg (by omega)]
    by_cases e2 : j < off + xs.length
    · rw [if_pos e2] at hj; rw [if_pos (by omega)]
      rw [show o + (i + j) - (o + i + off) = j - off by omega]
      exact hj
    · rw [if_neg e2] at hj; rw [if_neg (by omega)]; exact old hj
theorem At.other {w w' : World} {b o i k : Nat} {X : Array Value} {te : TypeId} {ys xs : List Value} (hX : w.heap[b]? = some (.cells X te (0, 0))) (h : At w ⟨b, o, none⟩ i ys) (h1 : o + i + ys.length ≤ k ∨ k + xs.length ≤ o + i)
    (h2 : k + xs.length ≤ X.size) (hw : w'.heap[b]? = some (.cells (X.toList.take k ++ xs ++ X.toList.drop (k + xs.length)).toArray te (0, 0))) : At w' ⟨b, o, none⟩ i ys := by
  intro j x hj
  have hlt : j < ys.length := (List.getElem?_eq_some_iff.1 hj).1
  have := h j x hj
  rw [add_plain', cell_block hX] at this
  rw [add_plain', cell_block hw]
  simp only [List.getElem?_toArray]
  rw [splice_at (by simpa using h2)]
  have e : X.toList[o + (i + j)]? = some x := by simpa using this
  by_cases e1 : o + (i + j) < k
  · rw [if_pos e1]; exact e
  · rw [if_neg e1, if_neg (by omega)]; exact e
theorem sim_store_elt (I : Inv F σ a w μ own) (hf : Fits F a o) {t : TypeId} {ptr x : Operand} {ty : Ty} (ho : o.op = .store t ptr x) (hT : TD Cx.P ty t) {kv : KV} (hkv : kv.t = ty) (hv : Val (ctx σ.sto w μ own) σ.sto kv (a.eval x))
    {n : Nat} {c : Ty} {xs : List (D c)} {e : Ow} {p q : Nat} (hn : σ.sto n = .live ⟨.sl c, xs, .own e⟩ p q) {b bo len cap i off : Nat} (hμ : μ n = .slice (some ⟨b, bo, none⟩) len cap) (hi : i < len)
    (hptr : a.eval ptr = .pointer (some ⟨b, bo + i * c.sz + off, none⟩)) {T : List Nat} {x' : KV × (Nat → Slot) × List Nat} (hx : kv.fold (slotSet (within σ.sto T) n .gone) = some x') {y : D c × Ow} (hy : setAt c e (rdAt xs i c.dflt) off x'.1 = some y) (hye : y.2 = e) :
    Sim F σ a w o ⟨[], some KV.nil, (n, .live ⟨.sl c, List.set xs i y.1, .own e⟩ (p + 1) q) :: goneAll x'.2.2, []⟩ := by
  subst hkv
  rcases I.ents.K n _ p q hn with ⟨_, hcs⟩ | ⟨b', off', cap', X, te, hcs, hcap, hb, hX, hXsz, Sr, h6, h7, h8⟩
  · have h : [μ n] = [Value.slice none 0 0] := hcs
    rw [hμ] at h
    cases h
  have hbb : b' = b ∧ off' = bo ∧ len = xs.length ∧ cap' = cap := by
    have h : [μ n] = [Value.slice (some ⟨b', off', none⟩) xs.length cap'] := hcs
    rw [hμ] at h
    cases h
    exact ⟨rfl, rfl, rfl, rfl⟩
  obtain ⟨rfl, rfl, rfl, rfl⟩ := hbb
  have hcap : xs.length ≤ cap' := hcap
  unfold KV.fold at hx
  cases hfo : foldV kv.t kv.v kv.o (slotSet (within σ.sto T) n .gone) with
  | none => rw [hfo] at hx; cases hx
  | some z =>
  rw [hfo] at hx
  obtain rfl := Option.some.inj hx
  obtain ⟨zv, zo, zs, g⟩ := z
  dsimp only at hy ⊢
  have hk := KT0_cells ((KT_one hT.one).1 hv.kt)
  have hlen := K_len _ _ _ _ _ hk.1
  have hsz : (a.eval x).cells.size = kv.t.sz := by simpa using hlen
  -- what goes in
  have hsub : ∀ m kv p q, slotSet (within σ.sto T) n .gone m = .live kv p q → m ≠ n ∧ σ.sto m = .live kv p q := fun m kv p q h => by
    by_cases em : m = n
    · subst em; simp [slotSet] at h
    · simp only [slotSet, beq_ne em, cond_false] at h
      exact ⟨em, within_live h⟩
  obtain ⟨l1, k1⟩ := foldV_K _ _ _ _ _ _ _ hfo hk.1 (I.ents.mono fun m kv p q h => (hsub m kv p q h).2) (fun _ _ _ _ h => h)
  have hg : ∀ m ∈ g, (σ.sto m).lives ∧ m ≠ n := fun m hm => by
    obtain ⟨⟨kv, p, q, e⟩, _⟩ := l1.gone m hm
    exact ⟨⟨kv, p, q, (hsub m kv p q e).2⟩, (hsub m kv p q e).1⟩
  have hgo : ∀ m ∈ g, ∀ k, own m k → ¬ own n k := fun m hm k => I.ents.disj m n (hg m hm).1 ⟨_, _, _, hn⟩ (hg m hm).2 k
  -- the element
  have hxi := getElem?_rdAt xs i c.dflt hi
  obtain ⟨ys, e1, e2⟩ := h8 i _ hxi
  have hyl := K_len _ _ _ _ _ e1
  obtain ⟨g1, g2, g3⟩ := setAt_K _ _ _ _ _ _ _ _ _ _ hy e1 k1 (fun k hk h => h.elim (fun h => h.elim) fun ⟨m, hm, h⟩ => hgo m hm k h (h6 i k hk).1)
  dsimp only at g1 g2 g3
  have hmul : (i + 1) * c.sz ≤ cap' * c.sz := Nat.mul_le_mul_right _ (by omega)
  rw [Nat.succ_mul] at hmul
  have hfit : off' + i * c.sz + off + kv.t.sz ≤ X.size := by omega
  have hrun := run_store (a := a) (w := w) ho hT hptr hsz hX hfit (K_one _ _ _ _ _ hk.1)
  have W : Wrt σ w (w.setRow b' (X.toList.take (off' + i * c.sz + off) ++ (a.eval x).cells.toList ++ X.toList.drop (off' + i * c.sz + off + kv.t.sz)).toArray) μ own n ⟨.sl c, xs, .own e⟩ p q g b' :=
    ⟨hn, hg, setRow_size _ _ _, ⟨rfl, rfl, rfl⟩, fun k hk => setRow_other _ _ _ _ hk, hb, by rw [hμ]; rfl⟩
  have hnew := setRow_heap w b' X (X.toList.take (off' + i * c.sz + off) ++ (a.eval x).cells.toList ++ X.toList.drop (off' + i * c.sz + off + kv.t.sz)).toArray te _ hX
  have T : Turn σ.sto (setS σ.sto n (.live ⟨.sl c, List.set xs i y.1, .own e⟩ (p + 1) q) g) w _ μ μ own (setO own n g) := W.turn I
  have hsays : ∀ m, e.says m → σ.sto m ≠ .fresh := fun m hm => I.saysS n _ p q hn m hm
  have hlns : ∀ l ∈ e.lns, known σ.sto l := fun l hl => I.lnsS n _ p q hn l hl
  have nb : ∀ m ∈ g, ∀ k, own m k → k ≠ b' := fun m hm k h e => hgo m hm k h (e ▸ hb)
  refine sim_wrt (kv' := ⟨.sl c, List.set xs i y.1, .own e⟩) I W hf hrun (.inr ⟨b', off', cap', _, te, ?_, ?_, .inl hb, hnew, ?_, fun j k => Sr j k ∨ (j = i ∧ ∃ m ∈ g, own m k), fun j k hk => ?_, fun j1 j2 k hk1 hk2 => ?_, fun j v hj => ?_⟩) hsays hlns
  · rw [hμ, List.length_set]
  · rw [List.length_set]; exact hcap
  · simp [hsz]; omega
  · rcases hk with hk | ⟨rfl, m, hm, hk⟩
    · exact ⟨.inl (h6 j k hk).1, (h6 j k hk).2⟩
    · exact ⟨.inr ⟨rfl, m, hm, hk⟩, nb m hm k hk⟩
  · rcases hk1 with hk1 | ⟨rfl, m1, hm1, hk1⟩ <;> rcases hk2 with hk2 | ⟨rfl, m2, hm2, hk2⟩
    · exact h7 j1 j2 k hk1 hk2
    · exact absurd (h6 _ k hk1).1 (hgo m2 hm2 k hk2)
    · exact absurd (h6 _ k hk2).1 (hgo m1 hm1 k hk1)
    · rfl
  · by_cases hji : j = i
    · subst hji
      have hv' : v = y.1 := by
        have hj : (List.set xs j y.1)[j]? = some v := hj
        rw [List.getElem?_set_self hi] at hj
        exact (Option.some.inj hj).symm
      subst hv'
      rw [hye] at g2
      refine ⟨ys.take off ++ (a.eval x).cells.toList ++ ys.drop (off + kv.t.sz), K_sub _ _ _ _ _ _ (fun k hk => ?_) (K_keep _ _ _ _ _ (T.keeps I.low (fun k hk => ?_) hsays hlns) g2), ?_⟩
      · exact hk.imp id fun h => h.elim (fun h => h.elim) fun ⟨m, hm, h⟩ => ⟨rfl, m, hm, h⟩
      · exact W.heap k (hk.elim (fun h => (h6 _ k h).2) fun h => h.elim (fun h => h.elim) fun ⟨m, hm, h⟩ => nb m hm k h)
      · have := At.wrt (xs := (a.eval x).cells.toList) (off := off) hX e2 (by simp [hsz]; omega) (by omega) (w' := w.setRow b' (X.toList.take (off' + j * c.sz + off) ++ (a.eval x).cells.toList ++ X.toList.drop (off' + j * c.sz + off + kv.t.sz)).toArray) (by rw [hlen]; exact hnew)
        rw [hlen] at this
        exact this
    · have hj' : xs[j]? = some v := by
        have hj : (List.set xs i y.1)[j]? = some v := hj
        rwa [List.getElem?_set_ne (Ne.symm hji)] at hj
      obtain ⟨zs', k3, k4⟩ := h8 j v hj'
      have hzl := K_len _ _ _ _ _ k3
      refine ⟨zs', K_sub _ _ _ _ _ _ (fun k hk => .inl hk) (K_keep _ _ _ _ _ (T.keeps I.low (fun k hk => W.heap k (h6 j k hk).2) hsays hlns) k3), ?_⟩
      have hj2 : j < xs.length := (List.getElem?_eq_some_iff.1 hj').1
      refine At.other (xs := (a.eval x).cells.toList) (k := off' + i * c.sz + off) hX k4 ?_ (by rw [hlen]; exact hfit) (by rw [hlen]; exact hnew)
      rw [hlen, hzl]
      rcases Nat.lt_or_gt_of_ne hji with h | h
      · have := Nat.mul_le_mul_right c.sz (show j + 1 ≤ i by omega)
        rw [Nat.succ_mul] at this
        exact .inl (by omega)
      · have := Nat.mul_le_mul_right c.sz (show i + 1 ≤ j by omega)
        rw [Nat.succ_mul] at this
        exact .inr (by omega)
theorem sim_store (G : Good) (I : Inv F σ a w μ own) (hf : Fits F a o) {T : List Nat} {t : TypeId} {ptr x : Operand} {ty : Ty} (ho : o.op = .store t ptr x) (ht : tyOf t = some ty) {p kv : KV} (hkv : kv.t = ty)
    (hp : Val (ctx σ.sto w μ own) σ.sto p (a.eval ptr)) (hv : Val (ctx σ.sto w μ own) σ.sto kv (a.eval x)) {e : Eff} (he : storeR (within σ.sto T) p kv = .eff e) : Sim F σ a w o e := by
  have hT := tyOf_TD G ht
  have M := I.mem T
  unfold storeR at he
  split at he
  · rename_i c v n
    split at he
    · rename_i kv' pp qq hn
      split at he
      · rename_i e' v' he' hcast
        obtain ⟨kt, kv', ko⟩ := kv'
        obtain ⟨e1, rfl⟩ := cast?_eq hcast
        dsimp only at e1 he'
        subst e1 he'
        split at he
        · rename_i y hy
          cases he
          obtain ⟨b, S', X, te, m1, m2, m3, m4, m5⟩ := box_mu M hn
          have e4 : a.eval ptr = μ n := by
            have h : [a.eval ptr] = [μ n] ∧ _ := hp.kt
            exact List.singleton_inj.1 h.1
          exact sim_store_box I hf ho hT hkv hv (M.sub _ _ _ _ hn) m1 (e4.trans m1) hy
        · cases he
      · cases he
    · cases he
  · rename_i c v n off
    split at he
    · rename_i c' v' e' pp qq hn
      split at he
      · rename_i y hy
        cases he
        obtain ⟨b, h1, h2⟩ := hp.kt
        exact sim_store_box I hf ho hT hkv hv (M.sub _ _ _ _ hn) h1 (List.singleton_inj.1 h2) hy
      · cases he
    · cases he
  · rename_i c v n off rs i
    split at he
    · rename_i c' xs e' pp qq hn
      obtain ⟨b, bo, len, cap, h1, h3, h2⟩ := hp.kt
      cases hrs : Nat.beq rs c'.sz with
      | false => rw [hrs] at he; cases he
      | true =>
        rw [hrs] at he
        have hrs := Nat.eq_of_beq_eq_true hrs
        subst hrs
        dsimp only [cond_true] at he
        cases hx : kv.fold (slotSet (within σ.sto T) n .gone) with
        | none => rw [hx] at he; cases he
        | some x' =>
          rw [hx] at he
          dsimp only at he
          cases hy : setAt c' e' (rdAt (α := D c') xs i c'.dflt) off x'.1 with
          | none => rw [hy] at he; cases he
          | some y =>
            rw [hy] at he
            dsimp only at he
            cases hb : y.2.beq e' with
            | false => rw [hb] at he; cases he
            | true =>
              rw [hb] at he
              cases he
              exact sim_store_elt I hf ho hT hkv hv (M.sub _ _ _ _ hn) h1 h3 (List.singleton_inj.1 h2) hx hy (Ow.beq_eq hb)
    · cases he
  · cases he
end Go.Proofs.YtlffjoabajdfnaaGreat.Eng
/- What is taken out of a row; a row that is cut. No condition. -/
set_option linter.unusedSectionVars false
set_option linter.unusedVariables false
namespace Go.Proofs.YtlffjoabajdfnaaGreat.Eng
open Go.RowKit (wrap64)
variable [Tys] [Rb] [Cx]
variable {nb : Nat}
variable {F : Fr} {σ σ' : St} {a : Act} {w w' : World} {μ : Nat → Value} {own : Nat → Blk} {o : Oper} {s s1 : Nat → Slot} {C : Wd}
theorem sim_take (I : Inv F σ a w μ own) (hf : Fits F a o) {T : List Nat} {t : TypeId} {x : Operand} (ho : o.op = .load t x) {ty : Ty} (hT : TD Cx.P ty t) {c0 : Ty} {v : D (.pt c0)} {n off rs i : Nat}
    (hp : Val (ctx σ.sto w μ own) σ.sto ⟨.pt c0, v, .elt n off rs i⟩ (a.eval x)) {e : Eff} (he : takeR nb (within σ.sto T) ty n off rs i = .eff e) : Sim F σ a w o e := by
  have M := I.mem T
  have hone := hT.one
  unfold takeR at he
  split at he
  · rename_i c xs e' pp qq hn
    split at he
    · rename_i y hg'
      cases he
      cases hrs : Nat.beq rs c.sz with
      | false => rw [hrs] at hg'; cases hg'
      | true =>
        rw [hrs] at hg'
        have hg : getAt c e' (rdAt (α := D c) xs i c.dflt) off ty = some y := hg'
        have hrs := Nat.eq_of_beq_eq_true hrs
        subst hrs
        obtain ⟨b, o', len, cap, n1, n2, n3⟩ := hp.kt
        obtain ⟨A, cap', m0⟩ := mu_len M hn
        have hil : i < List.length (α := D c) xs := by rw [n1] at m0; cases m0; exact n2
        obtain ⟨b2, off2, cap2, zs, Si, m1, m2, m3, m4, m5⟩ := row_mu M hn (getElem?_rdAt (α := D c) xs i c.dflt hil)
        have : b2 = b ∧ off2 = o' := by rw [n1] at m1; cases m1; exact ⟨rfl, rfl⟩
        obtain ⟨rfl, rfl⟩ := this
        have e4 := List.singleton_inj.1 n3
        obtain ⟨g1, g2, ⟨S2, gs, g3⟩, g4⟩ := getAt_K _ _ _ _ _ _ _ _ hg m3
        have hlen : ((zs.drop off).take ty.sz).length = ty.sz := by simp; omega
        have hlive := M.sub _ _ _ _ hn
        have hgs : ∀ m ∈ [n], (σ.sto m).lives := fun m hm => by obtain rfl := List.mem_singleton.1 hm; exact ⟨_, _, _, hlive⟩
        have hlns : ∀ l ∈ y.o.lns, known σ.sto l := fun l hl => M.lns _ _ _ _ hlive l (got_lns _ _ _ _ _ _ hg l hl)
        have T0 := turn_gone (w' := w) I hgs (Nat.le_refl _) (fun b hb h => absurd rfl h)
        refine sim_named (S := S2) (g := [n]) (x := repV ty ((zs.drop off).take ty.sz)) I hf (run_load ho hT e4 hlen ?_) hgs ⟨rfl, rfl, rfl⟩ (Nat.le_refl _) (fun b hb h => absurd rfl h) ?_ (fun m hm => M.says _ _ _ _ hlive m (g4 m hm)) hlns fun b hb => ?_
        · have h4 : At w ⟨b2, off2, none⟩ (i * c.sz) zs := m4
          have := (h4.part (off := off) (n := ty.sz)).shift (j := 0)
          rw [add_plain'] at this
          simpa [Nat.add_assoc] using this
        · subst g1
          exact (KT_one hone).2 (KT0_rep hone (K_keep _ _ _ _ _ (T0.mid (μ' := μ) I.low (fun _ _ => rfl) hlns) g3))
        · have := m5 b (gs b hb)
          exact ⟨(I.bound _ _ _ _ hlive b this.1).1, .inr ⟨n, List.mem_singleton.2 rfl, this.1⟩⟩
    · cases he
  · cases he
theorem cut_own {c : Ty} {e : Ow} {xs : List (D c)} {l h : Int} {S : Blk} {y : Value} (hk : K C (.sl c) (.own e) xs [y] S) : ∃ A cap, y = .slice A xs.length cap ∧ xs.length ≤ cap ∧
    (0 ≤ l → l ≤ h → h ≤ (xs.length : Int) → K C (.sl c) (.own e) (cutList (α := D c) xs l h) [.slice (if cap = l.toNat then A else A.map (·.add (l.toNat * c.sz))) (h.toNat - l.toNat) (cap - l.toNat)] S) := by
  rcases hk with ⟨hv, hcs⟩ | ⟨b, off, cap, X, te, hcs, hcap, hb, hX, hXs, Sr, h6, h7, h8⟩
  · have hv : xs = [] := hv
    subst hv
    refine ⟨none, 0, List.singleton_inj.1 hcs, Nat.le_refl _, fun h0 h1 h2 => .inl ⟨?_, ?_⟩⟩
    · simp [cutList]
    · have e1 : l = 0 := by simp at h2; omega
      have e2 : h = 0 := by simp at h2; omega
      subst e1 e2
      simp
  · refine ⟨_, cap, List.singleton_inj.1 hcs, hcap, fun h0 h1 h2 => ?_⟩
    have hlen := cutList_length xs l h h2
    have hcap : xs.length ≤ cap := hcap
    by_cases hc : cap = l.toNat
    · rw [if_pos hc]
      have h00 : h.toNat - l.toNat = 0 := by omega
      have hnil : (cutList (α := D c) xs l h) = [] := List.eq_nil_of_length_eq_zero (by rw [hlen]; exact h00)
      refine .inr ⟨b, off, cap - l.toNat, X, te, ?_, ?_, hb, hX, ?_, Sr, h6, h7, fun i x hx => ?_⟩
      · rw [hlen]
      · show (cutList (α := D c) xs l h).length ≤ _
        rw [hlen]; omega
      · have : cap - l.toNat = 0 := by omega
        rw [this]; omega
      · have hx : (cutList (α := D c) xs l h)[i]? = some x := hx
        rw [hnil] at hx; cases hx
    · rw [if_neg hc]
      refine .inr ⟨b, off + l.toNat * c.sz, cap - l.toNat, X, te, ?_, ?_, hb, hX, ?_, fun i => Sr (l.toNat + i), fun i k => h6 _ k, fun i j k hi hj => by have := h7 _ _ k hi hj; omega, fun i x hx => ?_⟩
      · rw [hlen]; simp only [Option.map_some, add_plain']
      · show (cutList (α := D c) xs l h).length ≤ _
        rw [hlen]; omega
      · rw [Nat.mul_sub_right_distrib] at *
        have := Nat.mul_le_mul_right c.sz (show l.toNat ≤ cap by omega)
        omega
      · obtain ⟨zs, k1, k2⟩ := h8 _ _ (cutList_get _ _ _ _ _ hx)
        refine ⟨zs, k1, ?_⟩
        rw [Nat.add_mul] at k2
        have := k2.shift
        rwa [add_plain'] at this
theorem sim_cut (I : Inv F σ a w μ own) (hf : Fits F a o) {T : List Nat} {t : TypeId} {x : Operand} {lo hi : Option Operand} (ho : o.op = .slice t x lo hi none) {l h : Option Int} {k1 k2 : IntKind} (hl : lo.map a.eval = l.map (Value.int k1)) (hh : hi.map a.eval = h.map (Value.int k2))
    {c : Ty} {v : D (.sl c)} {n : Nat} (hT : TD Cx.P (.sl c) t) (hp : Val (ctx σ.sto w μ own) σ.sto ⟨.sl c, v, .ref n⟩ (a.eval x)) {e : Eff} (he : cutR nb (within σ.sto T) n c l h = .eff e) (hc : ∀ b ∈ e.conds, b = true) : Sim F σ a w o e := by
  have M := I.mem T
  obtain ⟨el, hu, _, hTe⟩ := hT
  unfold cutR at he
  split at he
  · rename_i c' ys e' ver q hn
    split at he
    · rename_i ys' hcast
      cases he
      obtain ⟨e1, rfl⟩ := cast?_eq hcast
      injection e1 with e1
      subst e1
      have e4 : a.eval x = μ n := by
        have h : [a.eval x] = [μ n] ∧ _ := hp.kt
        exact List.singleton_inj.1 h.1
      have hlive := M.sub _ _ _ _ hn
      have hc : ∀ b ∈ (cutOf (List.length (α := D c') ys : Int) l h).1, b = true := hc
      have hgs : ∀ m ∈ [n], (σ.sto m).lives := fun m hm => by obtain rfl := List.mem_singleton.1 hm; exact ⟨_, _, _, hlive⟩
      have hlns : ∀ l ∈ e'.lns, known σ.sto l := fun l hl => M.lns _ _ _ _ hlive l hl
      have T0 := turn_gone (w' := w) I hgs (Nat.le_refl _) (fun b hb h => absurd rfl h)
      obtain ⟨A, cap, m1, m2, m3⟩ := cut_own (l := (cutOf (List.length (α := D c') ys : Int) l h).2.1) (h := (cutOf (List.length (α := D c') ys : Int) l h).2.2) (M.K _ _ _ _ hlive)
      have hbd := (run_bounds (w := w) true _ cap m2 l h k1 k2 hc).2
      have hK := m3 hbd.1 hbd.2.1 hbd.2.2
      refine sim_named (kv := ⟨.sl c', cutList (α := D c') ys (cutOf (List.length (α := D c') ys : Int) l h).2.1 (cutOf (List.length (α := D c') ys : Int) l h).2.2, .own e'⟩) (S := own n) (g := [n]) I hf (run_slice_sl ho hu (hTe.size w) (e4.trans m1) m2 hl hh hc) hgs ⟨rfl, rfl, rfl⟩ (Nat.le_refl _) (fun b hb h => absurd rfl h) ?_ (fun m hm => M.says _ _ _ _ hlive m hm) hlns fun b hb => ?_
      · exact K_keep _ _ _ _ _ (T0.mid (μ' := μ) I.low (fun _ _ => rfl) hlns) hK
      · exact ⟨(I.bound _ _ _ _ hlive b hb).1, .inr ⟨n, List.mem_singleton.2 rfl, hb⟩⟩
    · cases he
  · cases he
end Go.Proofs.YtlffjoabajdfnaaGreat.Eng
/- What is taken out of an element, and put back. No condition. -/
set_option linter.unusedSectionVars false
set_option linter.unusedVariables false
namespace Go.Proofs.YtlffjoabajdfnaaGreat.Eng
open Go.RowKit (wrap64)
variable [Tys] [Rb] [Cx]
variable {nb : Nat}
variable {F : Fr} {σ σ' : St} {a : Act} {w w' : World} {μ : Nat → Value} {own : Nat → Blk} {o : Oper} {s s1 : Nat → Slot} {C C' : Wd}
theorem unf_val : ∀ (t : Ty) (v : D t) (o : Ow) (n : Nat) (cs : List Value) (S : Blk), K C t (unfV t v o n).2.1 (unfV t v o n).1 cs S → K C t (unfV t v o n).2.1 v cs S
  | .pair A B, v, o, n, cs, S, h => by
    simp only [unfV] at h ⊢
    obtain ⟨c1, c2, S1, S2, rfl, h1, h2, h3, h4, h5⟩ := h
    rw [Ow.fst_mk] at h1
    rw [Ow.snd_mk] at h2
    refine ⟨c1, c2, S1, S2, rfl, ?_, ?_, h3, h4, h5⟩
    · rw [Ow.fst_mk]; exact unf_val A _ _ _ _ _ h1
    · rw [Ow.snd_mk]; exact unf_val B _ _ _ _ _ h2
  | .st i r, v, o, n, cs, S, h => by
    by_cases hl : o = .lit
    · subst hl; simp only [unfV] at h ⊢; exact h
    · have e : unfV (.st i r) v o n = if h : Tys.row i = r then
          let y := unfV r (h ▸ Tys.to i v) o n
          (Tys.of i (h ▸ y.1), y.2)
        else (v, o, [], n) := by cases o <;> first | exact absurd rfl hl | rfl
      rw [e] at h ⊢
      by_cases h0 : Tys.row i = r
      · subst h0
        rw [dif_pos rfl] at h ⊢
        obtain ⟨h1, h2⟩ := h
        refine ⟨rfl, ?_⟩
        dsimp only at h2 ⊢
        rw [Tys.to_of] at h2
        exact unf_val (Tys.row i) _ _ _ _ _ h2
      · rw [dif_neg h0] at h ⊢; exact h
  | .sl A, v, o, n, cs, S, h => by
    cases o <;> simp only [unfV] at h ⊢ <;> exact h
  | .bx A, v, o, n, cs, S, h => by
    cases o <;> simp only [unfV] at h ⊢ <;> exact h
  | .tc A B, v, o, n, cs, S, h => by simp only [K] at h
  | .unit, _, _, _, _, _, h => h
  | .bool, _, _, _, _, _, h => h
  | .str, _, _, _, _, _, h => h
  | .int _, _, _, _, _, _, h => h
  | .pt _, _, _, _, _, _, h => h
  | .fn _ _, _, _, _, _, _, h => h
theorem K_weak {ls : List (Nat × Nat)} (hd : ¬ C'.ok ls) : ∀ (t : Ty) (o : Ow) (v : D t) (cs : List Value) (S : Blk), t.flat = true → K C t o v cs S → K C' t (t.roOf ls) v cs noBlk
  | .pair A B, o, v, cs, S, hf, h => by
    obtain ⟨c1, c2, S1, S2, rfl, h1, h2, h3, h4, h5⟩ := h
    simp only [Ty.flat, Bool.and_eq_true] at hf
    simp only [Ty.roOf]
    exact ⟨c1, c2, noBlk, noBlk, rfl, by rw [Ow.fst_mk]; exact K_weak hd A _ _ _ _ hf.1 h1, by rw [Ow.snd_mk]; exact K_weak hd B _ _ _ _ hf.2 h2, fun _ h => h, fun _ h => h, fun _ h => h.elim⟩
  | .st i r, o, v, cs, S, hf, h => by
    obtain ⟨h0, h1⟩ := h
    simp only [Ty.flat, Bool.and_eq_true] at hf
    exact ⟨h0, K_weak hd r _ _ _ _ hf.1 h1⟩
  | .sl A, o, v, cs, S, hf, h => by
    have hl := K_len _ _ _ _ _ h
    have h1 := K_one _ _ _ _ _ h
    match cs, hl with
    | [y], _ => exact ⟨y, rfl, h1 y List.mem_cons_self, fun h => absurd h hd⟩
  | .unit, _, _, _, _, _, h => h
  | .bool, _, _, _, _, _, h => h
  | .str, _, _, _, _, _, h => h
  | .int _, _, _, _, _, _, h => h
  | .bx _, _, _, _, _, hf, _ => by simp [Ty.flat] at hf
  | .pt _, _, _, _, _, hf, _ => by simp [Ty.flat] at hf
  | .tc _ _, _, _, _, _, hf, _ => by simp [Ty.flat] at hf
  | .fn _ _, _, _, _, _, hf, _ => by simp [Ty.flat] at hf
theorem known_whole' {n : Nat} {kv : KV} {p q : Nat} (h : s n = .live kv p q) : known s (whole n p) := .inr (by
  show (s n).knows (2 * p)
  rw [h]
  exact ⟨fun _ => Nat.le_refl _, fun h => by omega⟩)
theorem addNew_congr : ∀ (l : List (Nat × KV)) (s s' : Nat → Slot) (m : Nat), s m = s' m → addNew s l m = addNew s' l m
  | [], _, _, _, h => h
  | x :: l, s, s', m, h => by
    show addNew (slotSet s x.1 _) l m = addNew (slotSet s' x.1 _) l m
    refine addNew_congr l _ _ m ?_
    simp only [slotSet]
    cases Nat.beq m x.1
    · exact h
    · rfl
theorem sim_hole (I : Inv F σ a w μ own) (hf : Fits F a o) {T : List Nat} {t : TypeId} {x : Operand} (ho : o.op = .load t x) {ty : Ty} (hT : TD Cx.P ty t) {c0 : Ty} {v : D (.pt c0)} {n off rs i : Nat}
    (hp : Val (ctx σ.sto w μ own) σ.sto ⟨.pt c0, v, .elt n off rs i⟩ (a.eval x)) {e : Eff} (he : holeR nb (within σ.sto T) ty n off rs i = .eff e) : Sim F σ a w o e := by
  have M := I.mem T
  have hone := hT.one
  unfold holeR at he
  split at he
  · rename_i c xs e' pp qq hn
    cases hb : (e'.anon (within σ.sto T) && Nat.beq rs c.sz && c.flat) with
    | false => rw [hb] at he; cases he
    | true =>
    rw [hb] at he
    simp only [cond_true] at he
    simp only [Bool.and_eq_true] at hb
    obtain ⟨⟨ha, hrs⟩, hfl⟩ := hb
    have hrs := Nat.eq_of_beq_eq_true hrs
    subst hrs
    have hlive := M.sub _ _ _ _ hn
    split at he
    · rename_i x' hg
      cases he
      intro σ' hap
      obtain ⟨b1, bo, len, cap1, n1, n2, n3⟩ := hp.kt
      rcases I.ents.K n _ _ _ hlive with ⟨_, hcs⟩ | ⟨b, off', cap, X, te, hcs, hcap, hbS, hX, hXs, Sr, h6, h7, h8⟩
      · have h : [μ n] = [Value.slice none 0 0] := hcs
        have n1 : μ n = .slice (some ⟨b1, bo, none⟩) len cap1 := n1
        rw [n1] at h
        cases h
      have hbb : b = b1 ∧ off' = bo ∧ len = xs.length ∧ cap = cap1 := by
        have h : [μ n] = [Value.slice (some ⟨b, off', none⟩) xs.length cap] := hcs
        have n1 : μ n = .slice (some ⟨b1, bo, none⟩) len cap1 := n1
        rw [n1] at h
        cases h
        exact ⟨rfl, rfl, rfl, rfl⟩
      obtain ⟨rfl, rfl, rfl, rfl⟩ := hbb
      have hi : i < xs.length := n2
      have e4 := List.singleton_inj.1 n3
      have hxi := getElem?_rdAt xs i c.dflt hi
      obtain ⟨ys, e1, e2⟩ := h8 i _ hxi
      have hlns : ∀ l ∈ e'.lns, known σ.sto l := fun l hl => I.lnsS n _ _ _ hlive l hl
      have hno : ∀ m, ¬ e'.says m := fun m h => Ow.anon_says ha h
      have hnP : n < PAR := Nat.lt_of_not_le fun h => by rw [I.low n h] at hlive; cases hlive
      -- first the row tells nothing of the element
      generalize hs1 : slotSet σ.sto n (.live ⟨.sl c, xs, .hole e' i (c.roOf [whole n pp])⟩ (pp + 1) (qq + 1)) = s1
      have s1n : s1 n = .live ⟨.sl c, xs, .hole e' i (c.roOf [whole n pp])⟩ (pp + 1) (qq + 1) := by rw [← hs1]; simp [slotSet]
      have s1m : ∀ m, m ≠ n → s1 m = σ.sto m := fun m hm => by rw [← hs1]; simp [slotSet, beq_ne hm]
      have hdead : okLoans s1 [whole n pp] ≠ true := by
        simp only [okLoans, List.all_cons, List.all_nil, Bool.and_true, okLoan, whole, s1n]
        have h0 : Nat.ble PAR n = false := by
          cases e : Nat.ble PAR n with
          | false => rfl
          | true => have := Nat.le_of_ble_eq_true e; omega
        rw [h0, beq_ne (show 2 * pp ≠ 2 * (pp + 1) by omega), beq_ne (show 2 * pp ≠ 2 * (qq + 1) + 1 by omega)]
        simp
      let own1 : Nat → Blk := fun m k => own m k ∧ (m = n → ¬ Sr i k)
      have T1 : Turn σ.sto s1 w w μ μ own own1 := by
        refine ⟨Nat.le_refl _, fun _ _ => rfl, fun m hm => ?_, fun k hk h => absurd rfl h, fun m kv1 p1 q1 hm k hk hok => ?_⟩
        · by_cases em : m = n
          · subst em; exact .inr (.inr ⟨_, _, _, _, _, _, hlive, s1n, by omega, by omega⟩)
          · exact .inl (s1m m em)
        · by_cases em : m = n
          · subst em; exact ⟨m, _, _, _, hlive, hok.1, .inl rfl⟩
          · rw [s1m m em] at hm; exact ⟨m, _, _, _, hm, hok.1, .inl rfl⟩
      have KM := K_keep _ _ _ _ _ (T1.mid (μ' := μ) I.low (fun _ _ => rfl) hlns) e1
      obtain ⟨μ', own2, hN⟩ := unfV_K c (rdAt xs i c.dflt) e' (nm nb 0) ys (Sr i) _ KM (fun m _ _ h => hno m h)
      have hu : ∀ x ∈ (unfV c (rdAt xs i c.dflt) e' (nm nb 0)).2.2.1, x.1 < PAR ∧ σ.sto x.1 = .fresh := by
        simp only [Eff.apply] at hap
        cases hall : (List.all (unfV c (rdAt xs i c.dflt) e' (nm nb 0)).2.2.1 fun z => Nat.blt z.1 PAR && isFresh (σ.sto z.1)) with
        | false => rw [hall] at hap; cases hap
        | true =>
          simp only [List.all_eq_true, Bool.and_eq_true] at hall
          intro z hz
          obtain ⟨h1, h2⟩ := hall z hz
          refine ⟨by simpa using h1, ?_⟩
          unfold isFresh at h2
          split at h2
          · assumption
          · cases h2
      have hun : ∀ x ∈ (unfV c (rdAt xs i c.dflt) e' (nm nb 0)).2.2.1, x.1 ≠ n := fun x hx h => by
        have := (hu x hx).2
        rw [h, hlive] at this
        cases this
      have hall : (List.all (unfV c (rdAt xs i c.dflt) e' (nm nb 0)).2.2.1 fun z => Nat.blt z.1 PAR && isFresh (σ.sto z.1)) = true := by
        rw [List.all_eq_true]
        intro z hz
        rw [(hu z hz).2]
        simp [isFresh, (hu z hz).1]
      simp only [Eff.apply, hall, cond_true] at hap
      obtain ⟨own', I', hP', hs', hl'⟩ := I.make (o := e') (S := Sr i) (P := fun c' => K c' c (unfV c (rdAt xs i c.dflt) e' (nm nb 0)).2.1 (unfV c (rdAt xs i c.dflt) e' (nm nb 0)).1 ys noBlk) T1 ⟨rfl, rfl, rfl⟩
        (fun m hm => by
          have em : m ≠ n := fun e => by rw [e, hlive] at hm; cases hm
          rw [s1m m em]; exact hm)
        (fun m kv1 p1 q1 hm he => by
          by_cases em : m = n
          · subst em; rw [s1n, hlive] at he; simp at he
          · exact funext fun k => propext ⟨fun h => h.1, fun h => ⟨h, fun e => absurd e em⟩⟩)
        (fun m kv1 p1 q1 hm hne => by
          by_cases em : m = n
          · subst em
            rw [s1n] at hm
            cases hm
            refine ⟨⟨b, off', cap, X, te, hcs, hcap, ⟨hbS, fun _ h => (h6 i b h).2 rfl⟩, hX, hXs, hi, fun j k => Sr j k ∧ j ≠ i, fun j k hk => ⟨⟨(h6 j k hk.1).1, fun _ h => hk.2 (h7 _ _ k hk.1 h)⟩, (h6 j k hk.1).2⟩, fun j1 j2 k h1 h2 => h7 _ _ k h1.1 h2.1, fun j y hj => ?_⟩, fun k hk => I.bound _ _ _ _ hlive k hk.1, fun m hm => ?_, fun l hl => ?_⟩
            · obtain ⟨zs, z1, z2⟩ := h8 j y hj
              refine ⟨zs, ?_, z2⟩
              by_cases ej : j = i
              · rw [if_pos ej]
                exact K_sub _ _ _ _ _ _ (fun _ h => h.elim) (K_weak (C := ctx σ.sto w μ own) (C' := mid σ.sto s1 w w μ own) (ls := [whole m pp]) hdead c _ _ _ _ hfl z1)
              · rw [if_neg ej]
                exact K_sub _ _ _ _ _ _ (fun k hk => ⟨hk, ej⟩) (K_keep _ _ _ _ _ (T1.mid (μ' := μ) I.low (fun _ _ => rfl) hlns) z1)
            · rcases hm with hm | hm
              · exact absurd hm (hno _)
              · exact absurd hm (Ty.says_roOf _ _ _)
            · rcases List.mem_append.1 hl with hl | hl
              · exact hlns l hl
              · have := Ty.lns_roOf _ hl
                obtain rfl := List.mem_singleton.1 this
                exact known_whole' hlive
          · exact absurd (s1m m em) hne)
        (fun m1 m2 ⟨kv1, p1, q1, h1⟩ ⟨kv2, p2, q2, h2⟩ hne k hk1 hk2 => by
          have l1 : (σ.sto m1).lives := by
            by_cases em : m1 = n
            · subst em; exact ⟨_, _, _, hlive⟩
            · rw [s1m m1 em] at h1; exact ⟨_, _, _, h1⟩
          have l2 : (σ.sto m2).lives := by
            by_cases em : m2 = n
            · subst em; exact ⟨_, _, _, hlive⟩
            · rw [s1m m2 em] at h2; exact ⟨_, _, _, h2⟩
          exact I.ents.disj m1 m2 l1 l2 hne k hk1.1 hk2.1)
        hN (fun c1 c2 k h => K_keep _ _ _ _ _ k h)
        ⟨fun k hk => I.bound _ _ _ _ hlive k (h6 i k hk).1, fun k hk m ⟨kv1, p1, q1, h1⟩ ho => by
          by_cases em : m = n
          · exact ho.2 em hk
          · rw [s1m m em] at h1
            exact I.ents.disj m n ⟨_, _, _, h1⟩ ⟨_, _, _, hlive⟩ em k ho.1 (h6 i k hk).1,
         fun k hk hlt => ⟨n, _, _, _, hlive, (h6 i k hk).1, .inr ⟨_, _, _, s1n, by omega, by omega⟩⟩⟩
        (fun m h => absurd h (hno m)) hlns (fun x hx => by rw [s1m _ (hun x hx)]; exact (hu x hx).2) (fun x hx => (hu x hx).1)
      -- then the element's own names
      generalize hU : unfV c (rdAt xs i c.dflt) e' (nm nb 0) = u at *
      have s2n : addNew s1 u.2.2.1 n = .live ⟨.sl c, xs, .hole e' i (c.roOf [whole n pp])⟩ (pp + 1) (qq + 1) := by rw [addNew_out _ _ _ hun]; exact s1n
      obtain ⟨b3, off3, cap3, X3, te3, k1, k2, k3, k4, k5, kj, Sr3, k6, k7, k8⟩ := I'.ents.K n _ _ _ s2n
      have hmu : μ' n = μ n := hN.mu n (by
        rcases Nat.lt_or_ge n (nm nb 0) with h | h
        · exact .inl h
        · refine .inr (Nat.le_of_not_lt fun h2 => ?_)
          obtain ⟨x, hx, e⟩ := hN.full n h h2
          exact hun x hx e)
      have hbb : b3 = b ∧ off3 = off' := by
        have h1 : [μ' n] = [Value.slice (some ⟨b3, off3, none⟩) xs.length cap3] := k1
        have h2 : [μ n] = [Value.slice (some ⟨b, off', none⟩) xs.length cap] := hcs
        rw [hmu] at h1
        rw [h1] at h2
        cases h2
        exact ⟨rfl, rfl⟩
      obtain ⟨rfl, rfl⟩ := hbb
      have W : Wrt ⟨σ.env, addNew s1 u.2.2.1⟩ w w μ' own' n ⟨.sl c, xs, .hole e' i (c.roOf [whole n pp])⟩ (pp + 1) (qq + 1) [] b3 :=
        ⟨s2n, fun m hm => (by cases hm), rfl, ⟨rfl, rfl, rfl⟩, fun _ _ => rfl, k3, by
          have h1 : [μ' n] = [Value.slice (some ⟨b3, off3, none⟩) xs.length cap3] := k1
          rw [List.singleton_inj.1 h1]; rfl⟩
      have T2 := W.turn (kv' := ⟨.sl c, xs, .hole e' i u.2.1⟩) I'
      have hlns' : ∀ l ∈ e'.lns, known (addNew s1 u.2.2.1) l := fun l hl => I'.lnsS n _ _ _ s2n l (List.mem_append_left _ hl)
      have hKu := K_keep _ _ _ _ _ (T2.keeps (S := noBlk) I'.low (fun _ h => h.elim) hs' hl') hP'
      have I2 := W.inv (kv' := ⟨.sl c, xs, .hole e' i u.2.1⟩) I'
        ⟨b3, off3, cap3, X3, te3, k1, k2, .inl k3, k4, k5, kj, Sr3, fun j k hk => ⟨.inl (k6 j k hk).1, (k6 j k hk).2⟩, k7, fun j y hj => by
          by_cases ej : j = i
          · subst ej
            have hy : y = rdAt xs j c.dflt := by
              have hj : (show List (D c) from xs)[j]? = some y := hj
              rw [hxi] at hj
              exact (Option.some.inj hj).symm
            subst hy
            refine ⟨ys, ?_, e2⟩
            rw [if_pos rfl]
            have := unf_val c (rdAt xs j c.dflt) e' (nm nb 0) ys noBlk (by rw [hU]; exact hKu)
            rw [hU] at this
            exact K_sub _ _ _ _ _ _ (fun _ h => h.elim) this
          · obtain ⟨zs, z1, z2⟩ := k8 j y hj
            rw [if_neg ej] at z1
            refine ⟨zs, ?_, z2⟩
            rw [if_neg ej]
            exact K_keep _ _ _ _ _ (T2.keeps I'.low (fun _ _ => rfl) (fun m h => absurd h (hno m)) hlns') z1⟩
        (fun m hm => hm.elim (fun h => absurd h (hno m)) (hs' m)) (fun l hl => (List.mem_append.1 hl).elim (hlns' l) (hl' l))
      have hsto : addNew (slotSet σ.sto n (.live ⟨.sl c, xs, .hole e' i u.2.1⟩ (pp + 2) (qq + 1))) u.2.2.1 = setS (addNew s1 u.2.2.1) n (.live ⟨.sl c, xs, .hole e' i u.2.1⟩ (pp + 1 + 1) (qq + 1)) [] := by
        funext m
        show _ = slotSet (addNew s1 u.2.2.1) n _ m
        by_cases em : m = n
        · subst em
          rw [addNew_out _ _ _ hun]
          simp [slotSet]
        · rw [show slotSet (addNew s1 u.2.2.1) n (.live ⟨.sl c, xs, .hole e' i u.2.1⟩ (pp + 1 + 1) (qq + 1)) m = addNew s1 u.2.2.1 m by simp [slotSet, beq_ne em]]
          refine addNew_congr _ _ _ _ ?_
          rw [s1m m em]
          simp [slotSet, beq_ne em]
      obtain ⟨g1, g2, ⟨S2, gs, g3⟩, g4⟩ := getAt_K _ _ _ _ _ _ _ _ hg hKu
      have hyl := K_len _ _ _ _ _ e1
      have hlen : ((ys.drop off).take ty.sz).length = ty.sz := by simp; omega
      refine ⟨repV ty ((ys.drop off).take ty.sz), _, w, run_load ho hT e4 hlen ?_, .inl rfl, μ', setO own' n [], ?_⟩
      · have h4 : At w ⟨b3, off3, none⟩ (i * c.sz) ys := e2
        have := (h4.part (off := off) (n := ty.sz)).shift (j := 0)
        rw [add_plain'] at this
        simpa [Nat.add_assoc] using this
      · have hst : ∀ d, (match d with
            | some d => some (⟨fun x => bif Nat.beq x d then some x' else σ.env x, addNew (slotSet σ.sto n (.live ⟨.sl c, xs, .hole e' i u.2.1⟩ (pp + 2) (qq + 1))) u.2.2.1⟩ : St)
            | none => some ⟨σ.env, addNew (slotSet σ.sto n (.live ⟨.sl c, xs, .hole e' i u.2.1⟩ (pp + 2) (qq + 1))) u.2.2.1⟩) = some σ' → d = o.dst → Inv F σ' (a.put o.dst (repV ty ((ys.drop off).take ty.sz))) w μ' (setO own' n []) := by
          intro d hd ed
          rw [hsto] at hd
          cases d with
          | none => rw [← ed]; obtain rfl := Option.some.inj hd; exact I2
          | some d =>
            rw [← ed]
            obtain rfl := Option.some.inj hd
            refine I2.put (kv := some x') (hf d ed.symm) fun kv' hk => ?_
            obtain rfl := Option.some.inj hk
            refine ⟨?_, fun m hm => fresh_turn T2 (hs' m (g4 m hm)), fun l hl => known_turn T2 (hl' l (got_lns _ _ _ _ _ _ hg l hl))⟩
            subst g1
            exact (KT_one hone).2 (KT0_rep hone (K_sub _ _ _ _ _ _ gs g3))
        exact hst o.dst hap rfl
    · cases he
  · cases he
theorem join_core (I : Inv F σ a w μ own) {n : Nat} {c : Ty} {xs : List (D c)} {e : Ow} {i : Nat} {e' : Ow} {pp qq : Nat} (hn : σ.sto n = .live ⟨.sl c, xs, .hole e i e'⟩ pp qq) {y : D c × Ow × (Nat → Slot) × List Nat}
    (hfo : foldV c (rdAt xs i c.dflt) e' (slotSet σ.sto n .gone) = some y) (hye : y.2.1 = e) : ∃ own', Inv F ⟨σ.env, slotSet y.2.2.1 n (.live ⟨.sl c, List.set xs i y.1, .own e⟩ (pp + 1) qq)⟩ a w μ own' := by
  obtain ⟨b, off, cap, X, te, hcs, hcap, hb, hX, hXs, hi, Sr, h6, h7, h8⟩ := I.ents.K n _ _ _ hn
  have hi : i < xs.length := hi
  have hcap : xs.length ≤ cap := hcap
  have hxi := getElem?_rdAt xs i c.dflt hi
  obtain ⟨ys, e1, e2⟩ := h8 i _ hxi
  rw [if_pos rfl] at e1
  have l0 : Less σ.sto (slotSet σ.sto n .gone) (fun m => m = n) := Less.one ⟨_, _, _, hn⟩
  obtain ⟨l1, k1⟩ := foldV_K _ _ _ _ _ _ _ hfo e1 (I.ents.less l0) (fun m ⟨kv, p, q, em⟩ k hk hs => I.ents.disj m n ⟨_, _, _, (l0.live em).1⟩ ⟨_, _, _, hn⟩ (l0.live em).2 k hk (h6 i k hs).1)
  rw [hye] at k1
  have hg : ∀ m ∈ y.2.2.2, (σ.sto m).lives ∧ m ≠ n := fun m hm => by
    obtain ⟨⟨kv, p, q, em⟩, _⟩ := l1.gone m hm
    exact ⟨⟨_, _, _, (l0.live em).1⟩, (l0.live em).2⟩
  have hgo : ∀ m ∈ y.2.2.2, ∀ k, own m k → ¬ own n k := fun m hm k => I.ents.disj m n (hg m hm).1 ⟨_, _, _, hn⟩ (hg m hm).2 k
  have es : slotSet y.2.2.1 n (.live ⟨.sl c, List.set xs i y.1, .own e⟩ (pp + 1) qq) = setS σ.sto n (.live ⟨.sl c, List.set xs i y.1, .own e⟩ (pp + 1) qq) y.2.2.2 := by
    funext m
    rw [setS_at]
    by_cases hm : m ∈ y.2.2.2
    · rw [if_pos hm]
      simp only [slotSet, beq_ne (hg m hm).2, cond_false]
      exact (l1.gone m hm).2
    · rw [if_neg hm]
      by_cases em : m = n
      · subst em; rw [if_pos rfl]; simp [slotSet]
      · rw [if_neg em]
        simp only [slotSet, beq_ne em, cond_false]
        rw [l1.stay m hm]
        simp [slotSet, beq_ne em]
  have hμ : μ n = .slice (some ⟨b, off, none⟩) xs.length cap := List.singleton_inj.1 hcs
  have W : Wrt σ w w μ own n ⟨.sl c, xs, .hole e i e'⟩ pp qq y.2.2.2 b := ⟨hn, hg, rfl, ⟨rfl, rfl, rfl⟩, fun _ _ => rfl, hb, by rw [hμ]; rfl⟩
  have T := W.turn (kv' := ⟨.sl c, List.set xs i y.1, .own e⟩) I
  have hsays : ∀ m, e.says m → σ.sto m ≠ .fresh := fun m hm => I.saysS n _ _ _ hn m (.inl hm)
  have hlns : ∀ l ∈ e.lns, known σ.sto l := fun l hl => I.lnsS n _ _ _ hn l (List.mem_append_left _ hl)
  have nb : ∀ m ∈ y.2.2.2, ∀ k, own m k → k ≠ b := fun m hm k h e => hgo m hm k h (e ▸ hb)
  show ∃ own', Inv F ⟨σ.env, slotSet y.2.2.1 n (.live ⟨.sl c, List.set xs i y.1, .own e⟩ (pp + 1) qq)⟩ a w μ own'
  rw [es]
  refine ⟨setO own n y.2.2.2, W.inv I (.inr ⟨b, off, cap, X, te, ?_, ?_, .inl hb, hX, hXs, fun j k => Sr j k ∨ (j = i ∧ ∃ m ∈ y.2.2.2, own m k), fun j k hk => ?_, fun j1 j2 k hk1 hk2 => ?_, fun j v hj => ?_⟩) hsays hlns⟩
  · show [μ n] = [Value.slice (some ⟨b, off, none⟩) (List.set xs i y.1).length cap]
    rw [hμ, List.length_set]
  · show (List.set xs i y.1).length ≤ cap
    rw [List.length_set]; exact hcap
  · rcases hk with hk | ⟨rfl, m, hm, hk⟩
    · exact ⟨.inl (h6 j k hk).1, (h6 j k hk).2⟩
    · exact ⟨.inr ⟨rfl, m, hm, hk⟩, nb m hm k hk⟩
  · rcases hk1 with hk1 | ⟨rfl, m1, hm1, hk1⟩ <;> rcases hk2 with hk2 | ⟨rfl, m2, hm2, hk2⟩
    · exact h7 j1 j2 k hk1 hk2
    · exact absurd (h6 _ k hk1).1 (hgo m2 hm2 k hk2)
    · exact absurd (h6 _ k hk2).1 (hgo m1 hm1 k hk1)
    · rfl
  · by_cases hji : j = i
    · subst hji
      have hv' : v = y.1 := by
        have hj : (List.set xs j y.1)[j]? = some v := hj
        rw [List.getElem?_set_self hi] at hj
        exact (Option.some.inj hj).symm
      subst hv'
      exact ⟨ys, K_sub _ _ _ _ _ _ (fun k hk => hk.imp id fun ⟨m, hm, h⟩ => ⟨rfl, m, hm, h⟩) (K_keep _ _ _ _ _ (T.keeps I.low (fun _ _ => rfl) hsays hlns) k1), e2⟩
    · have hj' : xs[j]? = some v := by
        have hj : (List.set xs i y.1)[j]? = some v := hj
        rwa [List.getElem?_set_ne (Ne.symm hji)] at hj
      obtain ⟨zs, k3, k4⟩ := h8 j v hj'
      rw [if_neg hji] at k3
      exact ⟨zs, K_sub _ _ _ _ _ _ (fun k hk => .inl hk) (K_keep _ _ _ _ _ (T.keeps I.low (fun _ _ => rfl) hsays hlns) k3), k4⟩
theorem join_inv (I : Inv F σ a w μ own) {n : Nat} {s' : Nat → Slot} (h : joinS σ.sto n = some s') : ∃ own', Inv F ⟨σ.env, s'⟩ a w μ own' := by
  unfold joinS at h
  split at h
  · rename_i c xs e i e' pp qq hn
    split at h
    · rename_i y hfo
      cases hbq : y.2.1.beq e with
      | false => rw [hbq] at h; cases h
      | true =>
        rw [hbq] at h
        obtain rfl := Option.some.inj h
        exact join_core I hn hfo (Ow.beq_eq hbq)
    · cases h
  · obtain rfl := Option.some.inj h
    exact ⟨own, I⟩
theorem joinAll_inv : ∀ (ns : List Nat) (σ : St) (s' : Nat → Slot), InvE F σ a w → joinAll σ.sto ns = some s' → InvE F ⟨σ.env, s'⟩ a w
  | [], σ, s', I, h => by obtain rfl := Option.some.inj h; exact I
  | n :: ns, σ, s', ⟨μ, own, I⟩, h => by
    simp only [joinAll] at h
    split at h
    · rename_i s1 hj
      obtain ⟨own', I'⟩ := join_inv I hj
      exact joinAll_inv ns ⟨σ.env, s1⟩ s' ⟨μ, own', I'⟩ h
    · cases h
end Go.Proofs.YtlffjoabajdfnaaGreat.Eng
/- A part of a box gets names where it lies. No condition. -/
set_option linter.unusedSectionVars false
set_option linter.unusedVariables false
namespace Go.Proofs.YtlffjoabajdfnaaGreat.Eng
open Go.RowKit (wrap64)
variable [Tys] [Rb] [Cx]
variable {nb : Nat}
variable {F : Fr} {σ σ' : St} {a : Act} {w w' : World} {μ : Nat → Value} {own : Nat → Blk} {o : Oper} {s s1 : Nat → Slot} {C C' : Wd}
def Drop (C : Wd) (t : Ty) (cs : List Value) (S : Blk) (off : Nat) (want : Ty) (y : KV) (z : D t × Ow) : Prop :=
  y.t = want ∧ off + want.sz ≤ cs.length ∧ ∃ S2 : Blk, (∀ k, S2 k → S k) ∧ K C y.t y.o y.v ((cs.drop off).take want.sz) S2 ∧ K C t z.2 z.1 cs (fun k => S k ∧ ¬ S2 k)
theorem drop_leaf {t want : Ty} {o : Ow} {v : D t} {off : Nat} {y : KV} {z : D t × Ow} {cs : List Value} {S : Blk} {ls : List (Nat × Nat)} (hd : ¬ C.ok ls)
    (h : (if off = 0 ∧ t = want then some (⟨t, v, o⟩ : KV) else none) = some y) (h2 : (if h : off = 0 ∧ y.t = t then some ((h.2 ▸ y.v : D t), y.t.roOf ls) else none) = some z) (hf : y.t.flat = true) (hk : K C t o v cs S) : Drop C t cs S off want y z := by
  split at h
  · rename_i hc
    obtain ⟨rfl, rfl⟩ := hc
    injection h with h
    subst h
    rw [dif_pos ⟨rfl, rfl⟩] at h2
    injection h2 with h2
    subst h2
    have hl := K_len _ _ _ _ _ hk
    refine ⟨rfl, by omega, S, fun _ h => h, ?_, ?_⟩
    · simp only [List.drop_zero]
      rw [List.take_of_length_le (by omega)]
      exact hk
    · exact K_sub _ _ _ _ _ _ (fun _ h => h.elim) (K_weak hd t o v cs S hf hk)
  · cases h
theorem dropAt {ls : List (Nat × Nat)} (hd : ¬ C.ok ls) : ∀ (t : Ty) (o : Ow) (v : D t) (off : Nat) (want : Ty) (y : KV) (z : D t × Ow) (cs : List Value) (S : Blk),
    getAt t o v off want = some y → setAt t o v off ⟨y.t, y.v, y.t.roOf ls⟩ = some z → y.t.flat = true → K C t o v cs S → Drop C t cs S off want y z
  | .pair a b, o, v, off, want, y, z, cs, S, h, h2, hf, hk => by
    obtain ⟨c1, c2, S1, S3, rfl, h3, h4, h5, h6, h7⟩ := hk
    have hl := K_len _ _ _ _ _ h3
    simp only [getAt] at h
    simp only [setAt] at h2
    split at h
    · rename_i hlt
      rw [if_pos hlt] at h2
      cases hs : setAt a o.fst v.1 off ⟨y.t, y.v, y.t.roOf ls⟩ with
      | none => rw [hs] at h2; simp at h2
      | some x =>
        simp only [hs, Option.map_some, Option.some.injEq] at h2
        subst h2
        obtain ⟨e1, e2, S2, e3, e4, e5⟩ := dropAt hd a o.fst v.1 off want y x c1 S1 h hs hf h3
        refine ⟨e1, by simp; omega, S2, fun k hk => h5 k (e3 k hk), ?_, ?_⟩
        · rw [List.drop_append_of_le_length (by omega), List.take_append_of_le_length (by simp; omega)]
          exact e4
        · exact ⟨c1, c2, fun k => S1 k ∧ ¬ S2 k, S3, rfl, by rw [Ow.fst_mk]; exact e5, by rw [Ow.snd_mk]; exact h4, fun k hk => ⟨h5 k hk.1, hk.2⟩, fun k hk => ⟨h6 k hk, fun q => h7 k (e3 k q) hk⟩, fun k hk hk2 => h7 k hk.1 hk2⟩
    · rename_i hlt
      rw [if_neg hlt] at h2
      cases hs : setAt b o.snd v.2 (off - a.sz) ⟨y.t, y.v, y.t.roOf ls⟩ with
      | none => rw [hs] at h2; simp at h2
      | some x =>
        simp only [hs, Option.map_some, Option.some.injEq] at h2
        subst h2
        obtain ⟨e1, e2, S2, e3, e4, e5⟩ := dropAt hd b o.snd v.2 (off - a.sz) want y x c2 S3 h hs hf h4
        refine ⟨e1, by simp; omega, S2, fun k hk => h6 k (e3 k hk), ?_, ?_⟩
        · have e1 : (c1 ++ c2).drop off = c2.drop (off - a.sz) := by
            rw [List.drop_append, List.drop_of_length_le (by omega), List.nil_append]
            congr 1
            omega
          rw [e1]
          exact e4
        · exact ⟨c1, c2, S1, fun k => S3 k ∧ ¬ S2 k, rfl, by rw [Ow.fst_mk]; exact h3, by rw [Ow.snd_mk]; exact e5, fun k hk => ⟨h5 k hk, fun q => h7 k hk (e3 k q)⟩, fun k hk => ⟨h6 k hk.1, hk.2⟩, fun k hk hk2 => h7 k hk hk2.1⟩
  | .st i r, o, v, off, want, y, z, cs, S, h, h2, hf, hk => by
    have hg := getAt_K _ _ _ _ _ _ _ _ h hk
    simp only [getAt] at h
    simp only [setAt] at h2
    split at h
    · rename_i hc
      exact drop_leaf (t := .st i r) (want := want) (off := off) (v := v) hd (by rw [if_pos hc]; exact h) (by
        have hc2 : off = 0 ∧ y.t = .st i r := ⟨hc.1, hg.1.trans hc.2.symm⟩
        rw [dif_pos hc2] at h2 ⊢
        exact h2) hf hk
    · rename_i hc
      rw [dif_neg (fun h => hc ⟨h.1, h.2.symm.trans hg.1⟩)] at h2
      obtain ⟨h0, hk⟩ := hk
      rw [dif_pos h0] at h
      subst h0
      dsimp only at h h2 hk
      rw [dif_pos rfl] at h2
      cases hs : setAt (Tys.row i) o (Tys.to i v) off ⟨y.t, y.v, y.t.roOf ls⟩ with
      | none => rw [hs] at h2; simp at h2
      | some x =>
        simp only [hs, Option.map_some, Option.some.injEq] at h2
        subst h2
        obtain ⟨e1, e2, S2, e3, e4, e5⟩ := dropAt hd (Tys.row i) o _ off want y x cs S h hs hf hk
        refine ⟨e1, e2, S2, e3, e4, rfl, ?_⟩
        show K C (Tys.row i) x.2 (Tys.to i (Tys.of i x.1)) _ _
        rw [Tys.to_of]
        exact e5
  | .unit, _, v, _, _, _, _, _, _, h, h2, hf, hk => drop_leaf (v := v) hd h h2 hf hk
  | .bool, _, v, _, _, _, _, _, _, h, h2, hf, hk => drop_leaf (v := v) hd h h2 hf hk
  | .str, _, v, _, _, _, _, _, _, h, h2, hf, hk => drop_leaf (v := v) hd h h2 hf hk
  | .fn _ _, _, v, _, _, _, _, _, _, h, h2, hf, hk => drop_leaf (v := v) hd h h2 hf hk
  | .int _, _, v, _, _, _, _, _, _, h, h2, hf, hk => drop_leaf (v := v) hd h h2 hf hk
  | .sl _, _, v, _, _, _, _, _, _, h, h2, hf, hk => drop_leaf (v := v) hd h h2 hf hk
  | .bx _, _, v, _, _, _, _, _, _, h, h2, hf, hk => drop_leaf (v := v) hd h h2 hf hk
  | .pt _, _, v, _, _, _, _, _, _, h, h2, hf, hk => drop_leaf (v := v) hd h h2 hf hk
theorem whole_again (L : List Value) (off n : Nat) : L.take off ++ (L.drop off).take n ++ L.drop (off + n) = L := by
  rw [List.append_assoc, ← List.drop_drop, List.take_append_drop, List.take_append_drop]
theorem sim_name (I : Inv F σ a w μ own) (hf : Fits F a o) {T : List Nat} {t : TypeId} {x : Operand} (ho : o.op = .load t x) {ty : Ty} (hT : TD Cx.P ty t) {n off : Nat}
    (hp : ∀ b, μ n = .pointer (some ⟨b, 0, none⟩) → a.eval x = .pointer (some ⟨b, off, none⟩)) {e : Eff} (he : nameR nb (within σ.sto T) ty n off = .eff e) : Sim F σ a w o e := by
  have M := I.mem T
  have hone := hT.one
  unfold nameR at he
  split at he
  · rename_i c v e' pp qq hn
    split at he
    · rename_i y hg
      cases hfl : y.t.flat with
      | false => rw [hfl] at he; cases he
      | true =>
      rw [hfl] at he
      simp only [cond_true] at he
      have hlive := M.sub _ _ _ _ hn
      split at he
      · rename_i z hz
        split at he
        · rename_i z' hz'
          cases he
          intro σ' hap
          obtain ⟨b, S', hcs, hbS, ⟨X, te, hX, hK0⟩, hS'⟩ := I.ents.K n _ _ _ hlive
          have e4 := hp b (List.singleton_inj.1 hcs)
          have hlns : ∀ l ∈ e'.lns, known σ.sto l := fun l hl => I.lnsS n _ _ _ hlive l hl
          have hylns : ∀ l ∈ y.o.lns, known σ.sto l := fun l hl => hlns l (got_lns _ _ _ _ _ _ hg l hl)
          have hnP : n < PAR := Nat.lt_of_not_le fun h => by rw [I.low n h] at hlive; cases hlive
          -- first the row tells nothing of the part
          generalize hs1 : slotSet σ.sto n (.live ⟨.bx c, z.1, .own z.2⟩ (pp + 1) (qq + 1)) = s1
          have s1n : s1 n = .live ⟨.bx c, z.1, .own z.2⟩ (pp + 1) (qq + 1) := by rw [← hs1]; simp [slotSet]
          have s1m : ∀ m, m ≠ n → s1 m = σ.sto m := fun m hm => by rw [← hs1]; simp [slotSet, beq_ne hm]
          have hdead : okLoans s1 [whole n pp] ≠ true := by
            simp only [okLoans, List.all_cons, List.all_nil, Bool.and_true, okLoan, whole, s1n]
            have h0 : Nat.ble PAR n = false := by
              cases e : Nat.ble PAR n with
              | false => rfl
              | true => have := Nat.le_of_ble_eq_true e; omega
            rw [h0, beq_ne (show 2 * pp ≠ 2 * (pp + 1) by omega), beq_ne (show 2 * pp ≠ 2 * (qq + 1) + 1 by omega)]
            simp
          have turn : ∀ own1 : Nat → Blk, (∀ m k, own1 m k → own m k) → Turn σ.sto s1 w w μ μ own own1 := fun own1 hsub => by
            refine ⟨Nat.le_refl _, fun _ _ => rfl, fun m hm => ?_, fun k hk h => absurd rfl h, fun m kv1 p1 q1 hm k hk hok => ?_⟩
            · by_cases em : m = n
              · subst em; exact .inr (.inr ⟨_, _, _, _, _, _, hlive, s1n, by omega, by omega⟩)
              · exact .inl (s1m m em)
            · by_cases em : m = n
              · subst em; exact ⟨m, _, _, _, hlive, hsub _ _ hok, .inl rfl⟩
              · rw [s1m m em] at hm; exact ⟨m, _, _, _, hm, hsub _ _ hok, .inl rfl⟩
          have KM := K_keep _ _ _ _ _ ((turn own fun _ _ h => h).mid (μ' := μ) I.low (fun _ _ => rfl) hlns) hK0
          obtain ⟨g1, g2, Sr, g3, g4, g5⟩ := dropAt (C := mid σ.sto s1 w w μ own) (ls := [whole n pp]) hdead c e' v off ty y z _ _ hg hz hfl KM
          have hys : ∀ m, y.o.says m → σ.sto m ≠ .fresh := fun m hm => I.saysS n _ _ _ hlive m ((getAt_K _ _ _ _ _ _ _ _ hg KM).2.2.2 m hm)
          let own1 : Nat → Blk := fun m k => own m k ∧ (m = n → ¬ Sr k)
          have T1 : Turn σ.sto s1 w w μ μ own own1 := turn own1 fun m k h => h.1
          have hu : ∀ x ∈ (unfV y.t y.v y.o (nm nb 0)).2.2.1, x.1 < PAR ∧ σ.sto x.1 = .fresh := by
            simp only [Eff.apply] at hap
            cases hall : (List.all (unfV y.t y.v y.o (nm nb 0)).2.2.1 fun z => Nat.blt z.1 PAR && isFresh (σ.sto z.1)) with
            | false => rw [hall] at hap; cases hap
            | true =>
              simp only [List.all_eq_true, Bool.and_eq_true] at hall
              intro z hz
              obtain ⟨h1, h2⟩ := hall z hz
              refine ⟨by simpa using h1, ?_⟩
              unfold isFresh at h2
              split at h2
              · assumption
              · cases h2
          obtain ⟨μ', own2, hN⟩ := unfV_K y.t y.v y.o (nm nb 0) _ Sr _ g4 (fun m h1 h2 hm => by
            obtain ⟨z, hz, rfl⟩ := unfV_full _ _ _ _ m h1 h2
            exact hys _ hm (hu z hz).2)
          have hun : ∀ x ∈ (unfV y.t y.v y.o (nm nb 0)).2.2.1, x.1 ≠ n := fun x hx h => by
            have := (hu x hx).2
            rw [h, hlive] at this
            cases this
          have hall : (List.all (unfV y.t y.v y.o (nm nb 0)).2.2.1 fun z => Nat.blt z.1 PAR && isFresh (σ.sto z.1)) = true := by
            rw [List.all_eq_true]
            intro z hz
            rw [(hu z hz).2]
            simp [isFresh, (hu z hz).1]
          simp only [Eff.apply, hall, cond_true] at hap
          have hzsays : ∀ m, z.2.says m → σ.sto m ≠ .fresh := fun m hm => by
            have gx := setAt_K _ _ _ _ _ _ _ ((X.toList.drop off).take ty.sz) _ noBlk hz KM (K_sub _ _ _ _ _ _ (fun _ h => h.elim) (K_weak (C := mid σ.sto s1 w w μ own) hdead y.t y.o y.v _ _ hfl g4)) (fun _ _ h => h.elim)
            exact (gx.2.2 m hm).elim (fun h => I.saysS n _ _ _ hlive m h) (fun h => absurd h (Ty.says_roOf _ _ _))
          have hzlns : ∀ l ∈ z.2.lns, known σ.sto l := fun l hl => (setAt_lns _ _ _ _ _ _ hz l hl).elim (hlns l) fun h => by
            have := Ty.lns_roOf _ h
            obtain rfl := List.mem_singleton.1 this
            exact known_whole' hlive
          obtain ⟨own', I', hP', hs', hl'⟩ := I.make (o := y.o) (S := Sr) (P := fun c' => K c' y.t (unfV y.t y.v y.o (nm nb 0)).2.1 (unfV y.t y.v y.o (nm nb 0)).1 ((X.toList.drop off).take ty.sz) noBlk) T1 ⟨rfl, rfl, rfl⟩
            (fun m hm => by
              have em : m ≠ n := fun e => by rw [e, hlive] at hm; cases hm
              rw [s1m m em]; exact hm)
            (fun m kv1 p1 q1 hm he => by
              by_cases em : m = n
              · subst em; rw [s1n, hlive] at he; simp at he
              · exact funext fun k => propext ⟨fun h => h.1, fun h => ⟨h, fun e => absurd e em⟩⟩)
            (fun m kv1 p1 q1 hm hne => by
              by_cases em : m = n
              · subst em
                rw [s1n] at hm
                cases hm
                refine ⟨⟨b, fun k => S' k ∧ ¬ Sr k, hcs, ⟨hbS, fun _ h => (hS' b (g3 b h)).2 rfl⟩, ⟨X, te, hX, g5⟩, fun k hk => ⟨⟨(hS' k hk.1).1, fun _ => hk.2⟩, (hS' k hk.1).2⟩⟩, fun k hk => I.bound _ _ _ _ hlive k hk.1, hzsays, hzlns⟩
              · exact absurd (s1m m em) hne)
            (fun m1 m2 ⟨kv1, p1, q1, h1⟩ ⟨kv2, p2, q2, h2⟩ hne k hk1 hk2 => by
              have l1 : (σ.sto m1).lives := by
                by_cases em : m1 = n
                · subst em; exact ⟨_, _, _, hlive⟩
                · rw [s1m m1 em] at h1; exact ⟨_, _, _, h1⟩
              have l2 : (σ.sto m2).lives := by
                by_cases em : m2 = n
                · subst em; exact ⟨_, _, _, hlive⟩
                · rw [s1m m2 em] at h2; exact ⟨_, _, _, h2⟩
              exact I.ents.disj m1 m2 l1 l2 hne k hk1.1 hk2.1)
            hN (fun c1 c2 k h => K_keep _ _ _ _ _ k h)
            ⟨fun k hk => I.bound _ _ _ _ hlive k (hS' k (g3 k hk)).1, fun k hk m ⟨kv1, p1, q1, h1⟩ ho => by
              by_cases em : m = n
              · exact ho.2 em hk
              · rw [s1m m em] at h1
                exact I.ents.disj m n ⟨_, _, _, h1⟩ ⟨_, _, _, hlive⟩ em k ho.1 (hS' k (g3 k hk)).1,
             fun k hk hlt => ⟨n, _, _, _, hlive, (hS' k (g3 k hk)).1, .inr ⟨_, _, _, s1n, by omega, by omega⟩⟩⟩
            hys hylns (fun x hx => by rw [s1m _ (hun x hx)]; exact (hu x hx).2) (fun x hx => (hu x hx).1)
          -- then the part's own names
          generalize hU : unfV y.t y.v y.o (nm nb 0) = u at *
          have s2n : addNew s1 u.2.2.1 n = .live ⟨.bx c, z.1, .own z.2⟩ (pp + 1) (qq + 1) := by rw [addNew_out _ _ _ hun]; exact s1n
          obtain ⟨b3, S3, k1, k2, ⟨X3, te3, k3, k4⟩, k5⟩ := I'.ents.K n _ _ _ s2n
          have hmu : μ' n = μ n := hN.mu n (by
            rcases Nat.lt_or_ge n (nm nb 0) with h | h
            · exact .inl h
            · refine .inr (Nat.le_of_not_lt fun h2 => ?_)
              obtain ⟨x, hx, e⟩ := hN.full n h h2
              exact hun x hx e)
          have hbb : b3 = b := by
            have h1 : [μ' n] = [Value.pointer (some ⟨b3, 0, none⟩)] := k1
            have h2 : [μ n] = [Value.pointer (some ⟨b, 0, none⟩)] := hcs
            rw [hmu] at h1
            rw [h1] at h2
            cases h2
            rfl
          subst hbb
          have hXX : X3 = X := by
            have h3 : w.heap[b3]? = some (.cells X3 te3 (0, 0)) := k3
            have hX' : w.heap[b3]? = some (.cells X te (0, 0)) := hX
            rw [hX'] at h3
            cases h3; rfl
          subst hXX
          have W : Wrt ⟨σ.env, addNew s1 u.2.2.1⟩ w w μ' own' n ⟨.bx c, z.1, .own z.2⟩ (pp + 1) (qq + 1) [] b3 :=
            ⟨s2n, fun m hm => (by cases hm), rfl, ⟨rfl, rfl, rfl⟩, fun _ _ => rfl, k2, by
              have h1 : [μ' n] = [Value.pointer (some ⟨b3, 0, none⟩)] := k1
              rw [List.singleton_inj.1 h1]; rfl⟩
          have T2 := W.turn (kv' := ⟨.bx c, z'.1, .own z'.2⟩) I'
          obtain ⟨q1, q2, q3⟩ := setAt_K _ _ _ _ _ _ _ _ _ _ hz' k4 hP' (fun _ _ h => h.elim)
          have q2 : K _ c z'.2 z'.1 (X3.toList.take off ++ (X3.toList.drop off).take ty.sz ++ X3.toList.drop (off + y.t.sz)) _ := q2
          have hg1 : y.t.sz = ty.sz := by rw [g1]
          rw [hg1, whole_again] at q2
          have hsays2 : ∀ m, z'.2.says m → addNew s1 u.2.2.1 m ≠ .fresh := fun m hm => (q3 m hm).elim (fun h => I'.saysS n _ _ _ s2n m h) (hs' m)
          have hlns2 : ∀ l ∈ z'.2.lns, known (addNew s1 u.2.2.1) l := fun l hl => (setAt_lns _ _ _ _ _ _ hz' l hl).elim (fun h => I'.lnsS n _ _ _ s2n l h) (hl' l)
          have hKu := K_keep _ _ _ _ _ (T2.keeps (S := noBlk) I'.low (fun _ h => h.elim) hs' hl') hP'
          have I2 := W.inv (kv' := ⟨.bx c, z'.1, .own z'.2⟩) I'
            ⟨b3, _, k1, .inl k2, ⟨X3, te3, k3, K_keep _ _ _ _ _ (T2.keeps I'.low (fun _ _ => rfl) hsays2 hlns2) q2⟩, fun k hk => hk.elim (fun h => ⟨.inl (k5 k h).1, (k5 k h).2⟩) (fun h => h.elim)⟩ hsays2 hlns2
          have hsto : addNew (slotSet σ.sto n (.live ⟨.bx c, z'.1, .own z'.2⟩ (pp + 2) (qq + 1))) u.2.2.1 = setS (addNew s1 u.2.2.1) n (.live ⟨.bx c, z'.1, .own z'.2⟩ (pp + 1 + 1) (qq + 1)) [] := by
            funext m
            show _ = slotSet (addNew s1 u.2.2.1) n _ m
            by_cases em : m = n
            · subst em
              rw [addNew_out _ _ _ hun]
              simp [slotSet]
            · rw [show slotSet (addNew s1 u.2.2.1) n (.live ⟨.bx c, z'.1, .own z'.2⟩ (pp + 1 + 1) (qq + 1)) m = addNew s1 u.2.2.1 m by simp [slotSet, beq_ne em]]
              refine addNew_congr _ _ _ _ ?_
              rw [s1m m em]
              simp [slotSet, beq_ne em]
          have hlen : ((X3.toList.drop off).take ty.sz).length = ty.sz := by simp at g2 ⊢; omega
          refine ⟨repV ty ((X3.toList.drop off).take ty.sz), _, w, run_load ho hT e4 hlen ?_, .inl rfl, μ', setO own' n [], ?_⟩
          · have hX' : w.heap[b3]? = some (.cells X3 te (0, 0)) := hX
            have := (At.cells (off := off) hX').part (off := 0) (n := ty.sz)
            simpa using this
          · have hst : ∀ d, (match d with
                | some d => some (⟨fun x => bif Nat.beq x d then some ⟨y.t, u.1, u.2.1⟩ else σ.env x, addNew (slotSet σ.sto n (.live ⟨.bx c, z'.1, .own z'.2⟩ (pp + 2) (qq + 1))) u.2.2.1⟩ : St)
                | none => some ⟨σ.env, addNew (slotSet σ.sto n (.live ⟨.bx c, z'.1, .own z'.2⟩ (pp + 2) (qq + 1))) u.2.2.1⟩) = some σ' → d = o.dst → Inv F σ' (a.put o.dst (repV ty ((X3.toList.drop off).take ty.sz))) w μ' (setO own' n []) := by
              intro d hd ed
              rw [hsto] at hd
              cases d with
              | none => rw [← ed]; obtain rfl := Option.some.inj hd; exact I2
              | some d =>
                rw [← ed]
                obtain rfl := Option.some.inj hd
                refine I2.put (kv := some ⟨y.t, u.1, u.2.1⟩) (hf d ed.symm) fun kv' hk => ?_
                obtain rfl := Option.some.inj hk
                refine ⟨?_, fun m hm => fresh_turn T2 (hs' m hm), fun l hl => known_turn T2 (hl' l hl)⟩
                subst g1
                exact (KT_one hone).2 (KT0_rep hone (K_sub _ _ _ _ _ _ (fun _ h => h.elim) hKu))
            exact hst o.dst hap rfl
        · cases he
      · cases he
    · cases he
  · cases he
end Go.Proofs.YtlffjoabajdfnaaGreat.Eng
/- All operations but calls: the machine does what the evaluator says. No condition. -/
set_option linter.unusedSectionVars false
set_option linter.unusedVariables false
namespace Go.Proofs.YtlffjoabajdfnaaGreat.Eng
open Go.RowKit (wrap64)
variable [Tys] [Rb] [Cx]
variable {nb : Nat} {rid : Rid}
variable {F : Fr} {σ σ' : St} {a : Act} {w w' : World} {μ : Nat → Value} {own : Nat → Blk} {o : Oper} {s s1 : Nat → Slot} {C : Wd}
theorem ctx_mono : ∀ l ls b, (∀ x ∈ l, x ∈ ls) → (ctx s w μ own).RO l b → (ctx s w μ own).RO ls b :=
  fun l ls b h ⟨h1, h2, h3⟩ => ⟨h1, fun n kv p q e ho => (by obtain ⟨x, hx, h3⟩ := h2 n kv p q e ho; exact ⟨x, h x hx, h3⟩), fun hp => by obtain ⟨x, hx, h4⟩ := h3 fun l hl => hp l (h l hl); exact ⟨x, h x hx, h4⟩⟩
theorem Inv.whole (I : Inv F σ a w μ own) : ∀ n kv p q, σ.sto n = .live kv p q → ∀ ls b, own n b → whole n p ∈ ls → (ctx σ.sto w μ own).RO ls b := by
  intro n kv p q hn ls b hb hl
  refine ⟨(I.bound n kv p q hn b hb).1, fun m kv2 p2 q2 hm hb2 => ⟨_, hl, ?_⟩, fun hp => absurd (I.low n (hp _ hl)) (by rw [hn]; simp)⟩
  have : m = n := Classical.byContradiction fun h => I.ents.disj m n ⟨_, _, _, hm⟩ ⟨_, _, _, hn⟩ h b hb2 hb
  subst this
  rw [hn] at hm
  cases hm
  exact ⟨rfl, .inl rfl⟩
theorem Inv.inner (I : Inv F σ a w μ own) : ∀ n kv p q, σ.sto n = .live kv p q → ∀ ls b, own n b → b < w.heap.size → headOf (μ n) ≠ some b → inner n q ∈ ls → (ctx σ.sto w μ own).RO ls b := by
  intro n kv p q hn ls b hb _ hh hl
  refine ⟨(I.bound n kv p q hn b hb).1, fun m kv2 p2 q2 hm hb2 => ⟨_, hl, ?_⟩, fun hp => absurd (I.low n (hp _ hl)) (by rw [hn]; simp)⟩
  have : m = n := Classical.byContradiction fun h => I.ents.disj m n ⟨_, _, _, hm⟩ ⟨_, _, _, hn⟩ h b hb2 hb
  subst this
  rw [hn] at hm
  cases hm
  exact ⟨rfl, .inr ⟨rfl, hh⟩⟩
theorem known_whole {n : Nat} {kv : KV} {p q : Nat} (h : s n = .live kv p q) : known s (whole n p) := .inr (by
  show (s n).knows (2 * p)
  rw [h]
  exact ⟨fun _ => Nat.le_refl _, fun h => by omega⟩)
theorem known_inner {n : Nat} {kv : KV} {p q : Nat} (h : s n = .live kv p q) : known s (inner n q) := .inr (by
  show (s n).knows (2 * q + 1)
  rw [h]
  exact ⟨fun h => by omega, fun _ => Nat.le_refl _⟩)
theorem envAt_some {env : Nat → Option KV} {t : Nat} {kv : KV} (h : envAt env o t = some kv) : env t = some kv := by
  unfold envAt at h
  cases hi : isOperand t o with
  | false => rw [hi] at h; cases h
  | true => rw [hi] at h; exact h
theorem val_at {env : Nat → Option KV} {x : Operand} {want : Option Ty} {kv : KV} (h : val (envAt env o) x want = some kv) : val env x want = some kv := by
  cases x with
  | tmp t => exact envAt_some h
  | const v => exact h
  | global _ => exact h
  | func _ => exact h
theorem val_V (I : Inv F σ a w μ own) {x : Operand} {want : Option Ty} {kv : KV} (h : val (envAt σ.env o) x want = some kv) : Val (ctx σ.sto w μ own) σ.sto kv (a.eval x) := val_Val I (val_at h)
theorem partsOf_at {env : Nat → Option KV} {row : Ty} : ∀ {l : List (Nat × Operand)} {ps : List (Nat × KV)}, partsOf (envAt env o) row l = some ps → partsOf env row l = some ps
  | [], _, h => h
  | (f, x) :: l, ps, h => by
    simp only [partsOf] at h ⊢
    split at h
    · split at h
      · rename_i h1 _ _ h2 h3
        simp only [val_at h2, partsOf_at h3]
        exact h
      · cases h
    · cases h
theorem valsOf_at {env : Nat → Option KV} {c : Ty} : ∀ {l : List (Nat × Operand)} {ps : List KV}, valsOf (envAt env o) c l = some ps → valsOf env c l = some ps
  | [], _, h => h
  | p :: l, ps, h => by
    simp only [valsOf] at h ⊢
    split at h
    · rename_i h2 h3
      simp only [val_at h2, valsOf_at h3]
      exact h
    · cases h
theorem buildR_at {env : Nat → Option KV} {d : Nat} {t : Ty} {l : List (Nat × Operand)} {e : Eff} (h : buildR d (envAt env o) t l = .eff e) : buildR d env t l = .eff e := by
  unfold buildR at h ⊢
  split at h
  · split at h
    · rename_i hr
      rw [dif_pos hr]
      split at h
      · rename_i ps hps
        rw [partsOf_at hps]
        exact h
      · cases h
    · cases h
  · cases h
theorem buildSliceR_at {env : Nat → Option KV} {d len : Nat} {t : Ty} {l : List (Nat × Operand)} {e : Eff} (h : buildSliceR d (envAt env o) s t len l = .eff e) : buildSliceR d env s t len l = .eff e := by
  unfold buildSliceR at h ⊢
  split at h
  · rename_i c
    cases hb : (keysAre l 0 len && Nat.ble (len * c.sz) 16777216 && c.flat) with
    | false => rw [hb] at h; cases h
    | true =>
      rw [hb] at h
      simp only [cond_true] at h ⊢
      split at h
      · rename_i xs hxs
        rw [valsOf_at hxs]
        exact h
      · cases h
  · cases h
theorem bound_at (I : Inv F σ a w μ own) {x : Operand} {l : Option Int} (h : bound ((some x).bind (val (envAt σ.env o) · none)) = some l) : ∃ k i, l = some i ∧ a.eval x = .int k i := by
  simp only [Option.bind_some] at h
  cases hv : val (envAt σ.env o) x none with
  | none => rw [hv] at h; cases h
  | some kv =>
    rw [hv] at h
    unfold bound at h
    split at h
    · cases h
    · rename_i k i ow he
      obtain rfl := Option.some.inj h
      cases he
      exact ⟨k, i, rfl, kt_int (val_V I hv).kt⟩
    · cases h
theorem callR_ne {d : Nat} {f : Nat} {args : List KV} {e : Eff} (h : callR d s f args = .eff e) : False := by
  unfold callR at h
  split at h
  · cases h
  · split at h
    · generalize (_ && _) = b at h
      cases b <;> cases h
    · cases h
theorem sim_move (I : Inv F σ a w μ own) (hf : Fits F a o) {x : Operand} (ho : o.op = .move x ∨ o.op = .assign x) {e : Eff}
    (he : (match (generalizing := false) val (envAt σ.env o) x (tyOf o.type), x with
      | some kv, .const _ => .eff (Eff.named nb [] [] kv)
      | some kv, _ => .pure kv
      | none, .const _ => .eff ⟨[], none, [], []⟩
      | none, _ => .bad : OpR) = .eff e) (hc : ∀ b ∈ e.conds, b = true) : Sim F σ a w o e := by
  split at he
  · rename_i kv v hv
    cases he
    exact sim_const I hf ho (val_V I hv)
  · rename_i kv x' hv
    exact (pur_move ho (val_V I hv)).sim I hf he hc
  · cases he
    rename_i v _
    exact sim_dark I hf (run_move (a := a) ho w)
  · cases he
theorem sliceT_sim {T : List Nat} (I : Inv F σ a w μ own) (hf : Fits F a o) {t : TypeId} {x : Operand} {lo hi : Option Operand} {l h : Option Int} {k1 k2 : IntKind} (ho : o.op = .slice t x lo hi none) (hl : lo.map a.eval = l.map (Value.int k1)) (hh : hi.map a.eval = h.map (Value.int k2))
    {kv : KV} (hT : TD Cx.P kv.t t) (V : Val (ctx σ.sto w μ own) σ.sto kv (a.eval x)) {tk : Nat → Bool} {d : Nat} {e : Eff} (he : sliceT tk d (within σ.sto T) kv l h = .eff e) (hc : ∀ b ∈ e.conds, b = true) : Sim F σ a w o e := by
  have M := I.mem T
  unfold sliceT at he
  split at he
  · rename_i c v n
    cases htk : tk n with
    | true => rw [htk] at he; exact sim_cut I hf ho hl hh hT V he hc
    | false => rw [htk] at he; exact (pur_slice M I.whole ctx_mono (fun n kv p q h => known_whole h) ho hl hh hT V).sim I hf he hc
  · exact (pur_slice M I.whole ctx_mono (fun n kv p q h => known_whole h) ho hl hh hT V).sim I hf he hc
theorem sim_opR (G : Good) (I : Inv F σ a w μ own) (hf : Fits F a o) {e : Eff} (he : opR rid σ.env σ.sto o = .eff e) (hc : ∀ b ∈ e.conds, b = true) : Sim F σ a w o e := by
  unfold opR opR0 at he
  dsimp only at he
  generalize touchOf σ.env σ.sto o = T at he
  have M := I.mem T
  split at he
  · rename_i x ho
    exact sim_move I hf (.inl ho) he hc
  · rename_i x ho
    exact sim_move I hf (.inr ho) he hc
  · rename_i c x y ho
    exact (pur_pick ho (fun kv h => val_V I h) (fun kv h => val_V I h) (fun kv h => val_V I h)).sim I hf he hc
  · rename_i t ho
    split at he
    · rename_i ty ht
      cases hfl : ty.flat with
      | false => rw [hfl] at he; cases he
      | true =>
        rw [hfl] at he
        cases he
        exact sim_alloc_op G I hf ho ht hfl
    · cases he
  · rename_i t x ho
    split at he
    · rename_i kv hv
      cases h1 : kv.t.one with
      | false => rw [h1] at he; cases he
      | true =>
        rw [h1] at he
        cases he
        exact sim_box I hf ho h1 (val_V I hv)
    · cases he
  · rename_i t parts ho
    split at he
    · rename_i ty ht
      exact sim_build G I hf ho ht (buildR_at he) hc
    · cases he
  · rename_i t len parts ho
    split at he
    · rename_i ty ht
      exact sim_buildSlice G I hf ho ht (buildSliceR_at he) hc
    · cases he
  · rename_i t l c ho
    split at he
    · rename_i el eb l' c' ht hl hc'
      exact sim_makeSlice G I hf ho ht (val_V I hl) (val_V I hc') he hc
    · cases he
  · rename_i t x ho
    split at he
    · rename_i ty kv ht hv
      have V := val_V I hv
      unfold loadT at he
      split at he
      · rename_i c0 v0 n off rs i
        cases htk : rid.tk n with
        | true => rw [htk] at he; exact sim_take I hf ho (tyOf_TD G ht) V he
        | false =>
          rw [htk] at he
          cases hhl : rid.hl n with
          | true => rw [hhl] at he; exact sim_hole I hf ho (tyOf_TD G ht) V he
          | false =>
            rw [hhl] at he
            exact (pur_load M rfl I.inner ctx_mono (fun n kv p q h b hb => (I.bound n kv p q h b hb).1) (fun n kv p q h => known_inner h) ho (tyOf_TD G ht) V).sim I hf he hc
      · rename_i c0 v0 n off
        split at he
        · exact sim_name I hf ho (tyOf_TD G ht) (fun b hb => by
            obtain ⟨b', n1, n2⟩ := V.kt
            have n1 : μ n = .pointer (some ⟨b', 0, none⟩) := n1
            rw [hb] at n1
            cases n1
            exact List.singleton_inj.1 n2) he
        · exact (pur_load M rfl I.inner ctx_mono (fun n kv p q h b hb => (I.bound n kv p q h b hb).1) (fun n kv p q h => known_inner h) ho (tyOf_TD G ht) V).sim I hf he hc
      · rename_i c0 v0 n
        split at he
        · exact sim_name I hf ho (tyOf_TD G ht) (fun b hb => by
            have h : [a.eval x] = [μ n] ∧ _ := V.kt
            rw [← hb]; exact List.singleton_inj.1 h.1) he
        · exact (pur_load M rfl I.inner ctx_mono (fun n kv p q h b hb => (I.bound n kv p q h b hb).1) (fun n kv p q h => known_inner h) ho (tyOf_TD G ht) V).sim I hf he hc
      · exact (pur_load M rfl I.inner ctx_mono (fun n kv p q h b hb => (I.bound n kv p q h b hb).1) (fun n kv p q h => known_inner h) ho (tyOf_TD G ht) V).sim I hf he hc
    · cases he
  · rename_i t x y ho
    split at he
    · rename_i ty p kv ht hp hv
      split at he
      · rename_i hkv
        exact sim_store G I hf ho ht hkv (val_V I hp) (val_V I hv) he
      · cases he
    · cases he
  · rename_i x ho
    split at he
    · rename_i kv hv
      exact (pur_nilCheck M ho (val_V I hv)).sim I hf he hc
    · cases he
  · rename_i op t x y yt ho
    split at he
    · rename_i p q hp hq
      rw [OpR.hide_is, Bool.cond_self] at he
      exact (pur_binOp G ho (val_V I hp) (val_V I hq)).sim I hf he hc
    · cases he
  · rename_i op t x ho
    split at he
    · rename_i p hp
      exact (pur_unOp ho (val_V I hp)).sim I hf he hc
    · cases he
  · rename_i ts td x ho
    split at he
    · rename_i u v p hu hv hp
      exact (pur_convert M rfl G ho hu hv (val_V I hp)).sim I hf he hc
    · cases he
  · rename_i t x lo hi ho
    split at he
    · rename_i kv hkv
      obtain ⟨hv, hT⟩ : val (envAt σ.env o) x none = some kv ∧ TD Cx.P kv.t t := by
        split at hkv
        · rename_i ty kv' ht hv
          split at hkv
          · rename_i hty
            obtain rfl := Option.some.inj hkv
            exact ⟨hv, hty ▸ tyOf_TD G ht⟩
          · cases hkv
        · cases hkv
      have V := val_V I hv
      have S := fun {lo hi : Option Operand} {l h : Option Int} {k1 k2 : IntKind} (ho : o.op = .slice t x lo hi none) (hl : lo.map a.eval = l.map (Value.int k1)) (hh : hi.map a.eval = h.map (Value.int k2)) (he : sliceT rid.tk (nbase rid o) (within σ.sto T) kv l h = .eff e) => sliceT_sim (T := T) I hf ho hl hh hT V he hc
      split at he
      · exact S (l := none) (h := none) (k1 := .i64) (k2 := .i64) ho rfl rfl he
      · rename_i lo' l hl
        obtain ⟨k, i, rfl, e2⟩ := bound_at I hl
        exact S (h := none) (k1 := k) (k2 := .i64) ho (by simp [e2]) rfl he
      · rename_i hi' h hh
        obtain ⟨k, i, rfl, e2⟩ := bound_at I hh
        exact S (l := none) (k1 := .i64) (k2 := k) ho rfl (by simp [e2]) he
      · rename_i lo' hi' l h hl hh
        obtain ⟨k, i, rfl, e2⟩ := bound_at I hl
        obtain ⟨k', i', rfl, e4⟩ := bound_at I hh
        exact S (k1 := k) (k2 := k') ho (by simp [e2]) (by simp [e4]) he
      · cases he
    · cases he
  · rename_i t x f ho
    split at he
    · rename_i i r kv ht hv
      exact (pur_fieldAddr M ho (tyOf_TD G ht) (val_V I hv)).sim I hf he hc
    · cases he
  · rename_i t x f ho
    split at he
    · rename_i ty kv ht hv
      split at he
      · rename_i hty
        exact (pur_field G ho ht hty (val_V I hv)).sim I hf he hc
      · cases he
    · cases he
  · rename_i t x i ho
    split at he
    · rename_i ty p q ht hp hq
      split at he
      · rename_i hty
        exact (pur_indexAddr M ho (hty ▸ tyOf_TD G ht) (val_V I hp) (val_V I hq)).sim I hf he hc
      · cases he
    · cases he
  · rename_i t x i ho
    split at he
    · rename_i p q ht hp hq
      exact (pur_index G ho ht (val_V I hp) (val_V I hq)).sim I hf he hc
    · cases he
  · rename_i x j ho
    split at he
    · rename_i kv hv
      exact (pur_extract ho (val_V I hv)).sim I hf he hc
    · cases he
  · rename_i c ho
    split at he
    · rename_i hcal
      split at he
      · rename_i x t ts ha hts
        split at he
        · rename_i ty kv ht hv
          split at he
          · rename_i hty
            exact (pur_len M ho hcal ha hts (hty ▸ tyOf_TD G ht) (val_V I hv)).sim I hf he hc
          · cases he
        · cases he
      · cases he
    · rename_i hcal
      split at he
      · rename_i a0 x0 t tx ha hts
        split at he
        · rename_i ty eb u ht htx
          split at he
          · rename_i p q hp hq
            cases hb : (ty.flat && Nat.blt 0 eb) with
            | false => rw [hb] at he; cases he
            | true =>
              rw [hb] at he
              simp only [Bool.and_eq_true] at hb
              exact sim_append G I hf ho hcal ha hts ht htx hb.1 (by simpa using hb.2) (val_V I hp) (val_V I hq) he hc
          · cases he
        · cases he
      · cases he
    · rename_i hcal
      split at he
      · rename_i x y ha
        split at he
        · rename_i p q hp hq
          refine (pur_mm (f := mx) ho hcal ha (fun k p q => ?_) (val_V I hp) (val_V I hq)).sim I hf he hc
          show (do pure (.value (← Builtin.max_ c.argTypes o.type #[.int k p, .int k q])) : Sem Next).run Cx.P w = _
          simp only [Sem.run_bind, run_max_int2, Result.andThen_ok, Sem.run_pure, mx]
        · cases he
      · cases he
    · rename_i hcal
      split at he
      · rename_i x y ha
        split at he
        · rename_i p q hp hq
          refine (pur_mm (f := mn) ho hcal ha (fun k p q => ?_) (val_V I hp) (val_V I hq)).sim I hf he hc
          show (do pure (.value (← Builtin.min_ c.argTypes o.type #[.int k p, .int k q])) : Sem Next).run Cx.P w = _
          simp only [Sem.run_bind, run_min_int2, Result.andThen_ok, Sem.run_pure, mn]
        · cases he
      · cases he
    · rename_i f hcal
      split at he
      · rename_i args ha
        exact (callR_ne he).elim
      · cases he
    · cases he
  · cases he
end Go.Proofs.YtlffjoabajdfnaaGreat.Eng
/- Regions: what the evaluator's run says of each operation; regions in text order. No condition. -/
set_option linter.unusedSectionVars false
set_option linter.unusedVariables false
namespace Go.Proofs.YtlffjoabajdfnaaGreat.Eng
open Go.RowKit (wrap64)
variable [Tys] [Rb] [Cx]
variable {rid : Rid}
variable {F : Fr} {σ σ' : St} {a : Act} {w w' : World} {μ : Nat → Value} {own : Nat → Blk} {o : Oper} {s s1 : Nat → Slot} {C : Wd} {orc : CallO} {all : List Oper}
structure Rec where
  e : Option Eff
  touch : List Nat
def Rec.tr (r : Rec) : Tr := match r.e with
  | none => ⟨[], []⟩
  | some e => ⟨r.touch, e.wr⟩
def Acts (orc : CallO) (rid : Rid) (σ : St) (o : Oper) (e : Eff) : Prop :=
  (∀ b ∈ e.conds, b = true) ∧ (opR rid σ.env σ.sto o = .eff e ∨ ∃ f args rt ro kk r, opR rid σ.env σ.sto o = .call f args rt ro kk ∧ orc f args rt ro = some r ∧ kk r = some e)
def Want (all : List Oper) (env : Nat → Option KV) (o : Oper) (b : Bool) : Prop := match guardOf all env o with
  | .on => b = true
  | .off => b = false
  | .ask _ c _ want => b = (c == want)
  | .bad => False
def Does (orc : CallO) (rid : Rid) (all : List Oper) (σ : St) (o : Oper) (r : Rec) (σ' : St) : Prop :=
  (Want all σ.env o false ∧ r = ⟨none, []⟩ ∧ σ' = σ.put? o.dst (some KV.nil)) ∨ ∃ e, Want all σ.env o true ∧ Acts orc rid σ o e ∧ r = ⟨some e, touchOf σ.env σ.sto o⟩ ∧ e.apply o.dst σ = some σ'
inductive RunE (orc : CallO) (rid : Rid) (all : List Oper) : List Oper → St → List Rec → St → Prop
  | nil (σ : St) : RunE orc rid all [] σ [] σ
  | cons {o : Oper} {os : List Oper} {σ σ' σf : St} {r : Rec} {rs : List Rec} : Does orc rid all σ o r σ' → RunE orc rid all os σ' rs σf → RunE orc rid all (o :: os) σ (r :: rs) σf
theorem conds_some {α : Type} {k : Option α} {y : α} : ∀ {cs : List Bool}, conds cs k = some y → (∀ b ∈ cs, b = true) ∧ k = some y
  | [], h => ⟨by simp, h⟩
  | c :: cs, h => by
    cases c with
    | false => cases h
    | true =>
      obtain ⟨h1, h2⟩ := conds_some (cs := cs) (k := k) h
      exact ⟨fun b hb => by rcases List.mem_cons.1 hb with rfl | hb; rfl; exact h1 b hb, h2⟩
theorem put_self {g : Nat} {kv : KV} (h : σ.env g = some kv) : σ.put g (some kv) = σ := by
  obtain ⟨env, sto⟩ := σ
  simp only [St.put]
  congr 1
  funext x
  by_cases e : x = g
  · subst e; rw [beq_self]; exact h.symm
  · rw [beq_ne e]; rfl
theorem askOf_ask {g g' : Nat} {b : Bool} {ow : Ow} {want want' : Bool} {x : Option KV} (h : askOf g want x = .ask g' b ow want') : x = some ⟨.bool, b, ow⟩ ∧ g = g' ∧ want = want' := by
  unfold askOf at h
  split at h
  · cases h; exact ⟨rfl, rfl, rfl⟩
  · cases h
  · cases h
theorem askOf_off {g : Nat} {want : Bool} {x : Option KV} (h : askOf g want x = .off) : ∃ v ow, x = some ⟨.unit, v, ow⟩ := by
  unfold askOf at h
  split at h
  · cases h
  · exact ⟨_, _, rfl⟩
  · cases h
theorem guardOf_ask {env : Nat → Option KV} {g : Nat} {b : Bool} {ow : Ow} {want : Bool} (h : guardOf all env o = .ask g b ow want) : env g = some ⟨.bool, b, ow⟩ ∧ ∃ j, o.guard = some (j, want) ∧ (all[j]?).bind (·.dst) = some g := by
  unfold guardOf at h
  cases hgd : o.guard with
  | none => rw [hgd] at h; cases h
  | some jw =>
    obtain ⟨j, w⟩ := jw
    rw [hgd] at h
    dsimp only at h
    cases hd : (all[j]?).bind (·.dst) with
    | none => rw [hd] at h; cases h
    | some g' =>
      rw [hd] at h
      obtain ⟨e1, rfl, rfl⟩ := askOf_ask h
      exact ⟨e1, j, rfl, hd⟩
theorem evOps_run {α : Type} {draw : Bool} {k : St → Option α} {y : α} : ∀ (os : List Oper) (tr : List Tr) (σ : St), evOps orc rid all draw os tr σ k = some y →
    ∃ rs σf, RunE orc rid all os σ rs σf ∧ k σf = some y ∧ (draw = true → drawOk all (tr.reverse ++ rs.map Rec.tr) = true)
  | [], tr, σ, h => by
    simp only [evOps] at h
    refine ⟨[], σ, .nil σ, ?_, fun hd => ?_⟩
    · cases draw with
      | false => exact h
      | true =>
        cases hd : drawOk all tr.reverse with
        | false => rw [hd] at h; cases h
        | true => rw [hd] at h; exact h
    · subst hd
      cases hd : drawOk all tr.reverse with
      | false => rw [hd] at h; cases h
      | true => simpa using hd
  | o :: os, tr, σ, h => by
    simp only [evOps] at h
    have skip : Want all σ.env o false → evOps orc rid all draw os (⟨[], []⟩ :: tr) (σ.put? o.dst (some KV.nil)) k = some y → ∃ rs σf, RunE orc rid all (o :: os) σ rs σf ∧ k σf = some y ∧ (draw = true → drawOk all (tr.reverse ++ rs.map Rec.tr) = true) := by
      intro hw h
      obtain ⟨rs, σf, h1, h2, h3⟩ := evOps_run os _ _ h
      refine ⟨⟨none, []⟩ :: rs, σf, .cons (.inl ⟨hw, rfl, rfl⟩) h1, h2, fun hd => ?_⟩
      have := h3 hd
      simpa [Rec.tr] using this
    have fin : ∀ e, Want all σ.env o true → (opR rid σ.env σ.sto o = .eff e ∨ ∃ f args rt ro kk r, opR rid σ.env σ.sto o = .call f args rt ro kk ∧ orc f args rt ro = some r ∧ kk r = some e) →
        conds e.conds (match e.apply o.dst σ with
          | some σ' => evOps orc rid all draw os (⟨bif draw then touchOf σ.env σ.sto o else [], e.wr⟩ :: tr) σ' k
          | none => none) = some y → ∃ rs σf, RunE orc rid all (o :: os) σ rs σf ∧ k σf = some y ∧ (draw = true → drawOk all (tr.reverse ++ rs.map Rec.tr) = true) := by
      intro e hw ho h
      obtain ⟨h1, h2⟩ := conds_some h
      split at h2
      · rename_i σ' ha
        obtain ⟨rs, σf, h3, h4, h5⟩ := evOps_run os _ _ h2
        refine ⟨⟨some e, touchOf σ.env σ.sto o⟩ :: rs, σf, .cons (.inr ⟨e, hw, ⟨h1, ho⟩, rfl, ha⟩) h3, h4, fun hd => ?_⟩
        have := h5 hd
        subst hd
        simpa [Rec.tr] using this
      · cases h2
    have go : Want all σ.env o true → (match opR rid σ.env σ.sto o with
        | .eff e => conds e.conds (match e.apply o.dst σ with
          | some σ' => evOps orc rid all draw os (⟨bif draw then touchOf σ.env σ.sto o else [], e.wr⟩ :: tr) σ' k
          | none => none)
        | .call f args rt ro kk => (orc f args rt ro).bind fun r => match kk r with
          | some e => conds e.conds (match e.apply o.dst σ with
            | some σ' => evOps orc rid all draw os (⟨bif draw then touchOf σ.env σ.sto o else [], e.wr⟩ :: tr) σ' k
            | none => none)
          | none => none
        | .bad => none) = some y → ∃ rs σf, RunE orc rid all (o :: os) σ rs σf ∧ k σf = some y ∧ (draw = true → drawOk all (tr.reverse ++ rs.map Rec.tr) = true) := by
      intro hw h
      split at h
      · rename_i e he
        exact fin e hw (.inl he) h
      · rename_i f args rt ro kk he
        cases hr : orc f args rt ro with
        | none => rw [hr] at h; cases h
        | some r =>
          rw [hr] at h
          simp only [Option.bind_some] at h
          split at h
          · rename_i e hk
            exact fin e hw (.inr ⟨f, args, rt, ro, kk, r, he, hr, hk⟩) h
          · cases h
      · cases h
    cases hg : guardOf all σ.env o with
    | on =>
      rw [hg] at h
      exact go (by unfold Want; rw [hg]) h
    | off =>
      rw [hg] at h
      exact skip (by unfold Want; rw [hg]) h
    | bad => rw [hg] at h; cases h
    | ask g b ow want =>
      rw [hg] at h
      have hself := (guardOf_ask hg).1
      cases b with
      | true =>
        simp only [cond_true, put_self hself] at h
        cases want with
        | true => exact go (by unfold Want; rw [hg]; rfl) h
        | false => exact skip (by unfold Want; rw [hg]; rfl) h
      | false =>
        simp only [cond_false, put_self hself] at h
        cases want with
        | true => exact skip (by unfold Want; rw [hg]; rfl) h
        | false => exact go (by unfold Want; rw [hg]; rfl) h
def Goes (F : Fr) (σ' : St) (a : Act) (w : World) (o : Oper) : Prop :=
  ∀ (K : Act → World → Prop) (Q : Exit → Act → World → Prop), (∀ x w', InvE F σ' (a.put o.dst x) w' → K (a.put o.dst x) w') → o.wp Cx.P a w K Q
def CallOk (orc : CallO) : Prop :=
  ∀ (rid : Rid) (F : Fr) (σ : St) (a : Act) (w : World) (o : Oper), InvE F σ a w → Fits F a o → ∀ f args rt ro kk r e, opR rid σ.env σ.sto o = .call f args rt ro kk → orc f args rt ro = some r → kk r = some e → (∀ b ∈ e.conds, b = true) →
    ∀ σ', e.apply o.dst σ = some σ' → Goes F σ' a w o
theorem Sim.goes {e : Eff} (h : Sim F σ a w o e) (ha : e.apply o.dst σ = some σ') : Goes F σ' a w o := by
  intro K Q hK
  obtain ⟨x, r, w', h1, h2, h3⟩ := h σ' ha
  unfold Oper.wp
  rw [h1]
  rcases h2 with rfl | ⟨rfl, rfl⟩
  · exact hK _ _ h3
  · exact hK _ _ h3
theorem Acts.goes (G : Good) (H : CallOk orc) {e : Eff} (I : InvE F σ a w) (hf : Fits F a o) (h : Acts orc rid σ o e) (ha : e.apply o.dst σ = some σ') : Goes F σ' a w o := by
  obtain ⟨hc, h | ⟨f, args, rt, ro, kk, r, h1, h2, h3⟩⟩ := h
  · obtain ⟨μ, own, I⟩ := I
    exact (sim_opR G I hf h hc).goes ha
  · exact H rid F σ a w o I hf f args rt ro kk r e h1 h2 h3 hc σ' ha
theorem Want.wanted (I : InvE F σ a w) {b : Bool} (h : Want all σ.env o b) : Region.wanted o (yielded all.toArray a.tmps) = b := by
  obtain ⟨μ, own, I⟩ := I
  unfold Want at h
  unfold Region.wanted
  cases hgd : o.guard with
  | none =>
    have : guardOf all σ.env o = .on := by unfold guardOf; rw [hgd]
    rw [this] at h
    exact h.symm
  | some jw =>
    obtain ⟨j, want⟩ := jw
    dsimp only
    cases hd : (all[j]?).bind (·.dst) with
    | none =>
      have : guardOf all σ.env o = .off := by unfold guardOf; rw [hgd]; dsimp only; rw [hd]
      rw [this] at h
      have hd' : ((all.toArray[j]?).bind (·.dst)) = none := by simpa using hd
      have : yielded all.toArray a.tmps j = none := by unfold yielded; rw [hd']; rfl
      rw [this, h]; rfl
    | some g =>
      have hd' : ((all.toArray[j]?).bind (·.dst)) = some g := by simpa using hd
      have hG : guardOf all σ.env o = askOf g want (σ.env g) := by unfold guardOf; rw [hgd]; dsimp only; rw [hd]
      rw [hG] at h
      cases ha : askOf g want (σ.env g) with
      | on => unfold askOf at ha; split at ha <;> cases ha
      | bad => rw [ha] at h; exact h.elim
      | ask g' c ow want' =>
        rw [ha] at h
        obtain ⟨he, rfl, rfl⟩ := askOf_ask ha
        have e1 := kt_bool (I.env g _ he)
        have hy : yielded all.toArray a.tmps j = some c := by
          unfold yielded
          rw [hd']
          simp only [Option.bind_some]
          have hlt : g < a.tmps.size := by
            rcases Nat.lt_or_ge g a.tmps.size with h | h
            · exact h
            · rw [Array.getD_eq_getD_getElem?, Array.getElem?_eq_none h] at e1
              cases e1
          rw [Array.getD_eq_getD_getElem?, Array.getElem?_eq_getElem hlt] at e1
          rw [Array.getElem?_eq_getElem hlt]
          simp only [Option.getD_some] at e1
          rw [e1]
        rw [hy, h]
        cases c <;> cases want <;> rfl
      | off =>
        rw [ha] at h
        obtain ⟨v, ow, he⟩ := askOf_off ha
        have e1 : a.tmps.getD g undef = .tuple #[] := I.env g _ he
        have hy : yielded all.toArray a.tmps j = none := by
          unfold yielded
          rw [hd']
          simp only [Option.bind_some]
          cases ht : a.tmps[g]? with
          | none => rfl
          | some v =>
            rw [Array.getD_eq_getD_getElem?, ht] at e1
            simp only [Option.getD_some] at e1
            subst e1
            rfl
        rw [hy, h]; rfl
theorem put_size (a : Act) (d : Option Nat) (x : Value) : (a.put d x).tmps.size = a.tmps.size := by cases d <;> simp [Act.put]
theorem InvE.skip (I : InvE F σ a w) (hf : Fits F a o) : InvE F (σ.put? o.dst (some KV.nil)) (a.put o.dst undef) w := by
  obtain ⟨μ, own, I⟩ := I
  refine ⟨μ, own, ?_⟩
  cases hd : o.dst with
  | none => exact I
  | some d =>
    refine I.put (kv := some KV.nil) (hf d hd) fun kv' he => ?_
    obtain rfl := Option.some.inj he
    exact ⟨rfl, fun _ h => h.elim, fun _ h => by cases h⟩
theorem wp_plain (G : Good) (H : CallOk orc) {Q : Exit → Act → World → Prop} {σf : St} : ∀ (os : List Oper) (σ : St) (rs : List Rec) (a : Act) (w : World), RunE orc rid all os σ rs σf → InvE F σ a w → (∀ o ∈ os, Fits F a o) →
    (∀ a' w', InvE F σf a' w' → a'.tmps.size = a.tmps.size → Q .normal a' w') → wpList Cx.P all.toArray Q os a w
  | [], σ, _, a, w, h, I, _, hQ => by
    cases h
    exact hQ a w I rfl
  | o :: os, σ, _, a, w, h, I, hf, hQ => by
    cases h with
    | cons hd hr =>
      rename_i σ' r rs
      have hfo := hf o List.mem_cons_self
      have next : ∀ x w', InvE F σ' (a.put o.dst x) w' → wpList Cx.P all.toArray Q os (a.put o.dst x) w' := fun x w' I' => by
        refine wp_plain G H os σ' rs _ _ hr I' (fun o' ho' d hd => ?_) (fun a' w' h1 h2 => hQ a' w' h1 (h2.trans (put_size _ _ _)))
        rw [put_size]; exact hf o' (List.mem_cons_of_mem _ ho') d hd
      unfold wpList
      rcases hd with ⟨hw, rfl, rfl⟩ | ⟨e, hw, hact, rfl, ha⟩
      · rw [hw.wanted I]
        exact next _ _ (I.skip hfo)
      · rw [hw.wanted I]
        exact .inl (hact.goes G H I hfo ha _ _ next)
theorem fitAll_fits {n : Nat} {os : List Oper} (h : fitAll n F.ps os = true) (ha : a.tmps.size = n) : ∀ o ∈ os, Fits F a o := by
  intro o ho d hd
  simp only [fitAll, List.all_eq_true] at h
  have := h o ho
  rw [hd] at this
  rw [ha]
  simp only [Bool.and_eq_true, Bool.not_eq_true'] at this
  refine ⟨by simpa using this.1, fun hm => ?_⟩
  have h2 : F.ps.any (Nat.beq d) = true := List.any_eq_true.2 ⟨d, hm, Nat.beq_refl d⟩
  rw [h2] at this
  cases this.2
end Go.Proofs.YtlffjoabajdfnaaGreat.Eng
/- Operations that may be exchanged. No condition. -/
set_option linter.unusedSectionVars false
set_option linter.unusedVariables false
namespace Go.Proofs.YtlffjoabajdfnaaGreat.Eng
variable [Tys] [Rb] [Cx]
variable {rid : Rid}
variable {σ σ' τ : St} {o : Oper} {s s' : Nat → Slot} {orc : CallO} {all : List Oper}
/-! ### What an operation sees -/
theorem reach_congr : ∀ (k : Nat) (ns : List Nat), (∀ n ∈ reach s k ns, s n = s' n) → reach s' k ns = reach s k ns
  | 0, _, _ => rfl
  | k + 1, ns, h => by
    simp only [reach, List.mem_append] at h ⊢
    have e : ns.flatMap (fun n => slotNames (s' n)) = ns.flatMap (fun n => slotNames (s n)) := by
      have : ∀ (ms : List Nat), (∀ n ∈ ms, s n = s' n) → ms.flatMap (fun n => slotNames (s' n)) = ms.flatMap (fun n => slotNames (s n)) := by
        intro ms
        induction ms with
        | nil => intro _; rfl
        | cons m ms ih =>
          intro hm
          rw [List.flatMap_cons, List.flatMap_cons, ih fun n hn => hm n (List.mem_cons_of_mem _ hn), hm m List.mem_cons_self]
      exact this ns fun n hn => h n (.inl hn)
    rw [e, reach_congr k _ fun n hn => h n (.inr hn)]
theorem within_congr {T : List Nat} (h : ∀ n ∈ T, s n = s' n) : within s T = within s' T := by
  funext n
  unfold within
  cases hb : T.any (Nat.beq n) with
  | false => rfl
  | true =>
    obtain ⟨m, hm, he⟩ := List.any_eq_true.1 hb
    have := Nat.eq_of_beq_eq_true he
    subst this
    exact h n hm
theorem isOperand_mem {t : Nat} (h : isOperand t o = true) : Operand.tmp t ∈ o.op.operands.toList := by
  obtain ⟨y, hy, he⟩ := List.any_eq_true.1 h
  cases y with
  | tmp u => have := Nat.eq_of_beq_eq_true he; subst this; exact hy
  | const _ => cases he
  | global _ => cases he
  | func _ => cases he
theorem isOperand_looks {arr : Array Oper} {t : Nat} (h : Operand.tmp t ∈ o.op.operands.toList) : t ∈ o.looksAt arr :=
  List.mem_append_left _ (List.mem_filterMap.2 ⟨_, h, rfl⟩)
theorem envAt_congr {arr : Array Oper} {env env' : Nat → Option KV} (h : ∀ t ∈ o.looksAt arr, env t = env' t) : envAt env o = envAt env' o := by
  funext t
  unfold envAt
  cases hb : isOperand t o with
  | false => rfl
  | true => exact h t (isOperand_looks (isOperand_mem hb))
theorem namesOf_congr {arr : Array Oper} {env env' : Nat → Option KV} (h : ∀ t ∈ o.looksAt arr, env t = env' t) : o.op.operands.toList.flatMap (namesOf env) = o.op.operands.toList.flatMap (namesOf env') := by
  have : ∀ l : List Operand, (∀ x ∈ l, x ∈ o.op.operands.toList) → l.flatMap (namesOf env) = l.flatMap (namesOf env') := by
    intro l
    induction l with
    | nil => intro _; rfl
    | cons x l ih =>
      intro hl
      rw [List.flatMap_cons, List.flatMap_cons, ih fun y hy => hl y (List.mem_cons_of_mem _ hy)]
      congr 1
      cases x with
      | tmp t => simp only [namesOf]; rw [h t (isOperand_looks (hl _ List.mem_cons_self))]
      | const _ => rfl
      | global _ => rfl
      | func _ => rfl
  exact this _ fun _ h => h
structure Same (arr : Array Oper) (o : Oper) (touch : List Nat) (σ τ : St) : Prop where
  env : ∀ t ∈ o.looksAt arr, σ.env t = τ.env t
  sto : ∀ n ∈ touch, σ.sto n = τ.sto n
theorem Same.touch {arr : Array Oper} (h : Same arr o (touchOf σ.env σ.sto o) σ τ) : touchOf τ.env τ.sto o = touchOf σ.env σ.sto o := by
  have := h.sto
  unfold touchOf at this ⊢
  cases hm : isMove o with
  | true => rfl
  | false =>
    rw [hm] at this
    simp only [cond_false] at this ⊢
    rw [← namesOf_congr h.env]
    exact reach_congr _ _ this
theorem Same.opR {arr : Array Oper} (h : Same arr o (touchOf σ.env σ.sto o) σ τ) : opR rid τ.env τ.sto o = opR rid σ.env σ.sto o := by
  unfold Eng.opR
  rw [h.touch, envAt_congr h.env, within_congr h.sto]
theorem guardOf_congr {env env' : Nat → Option KV} (h : ∀ t ∈ o.looksAt all.toArray, env t = env' t) : guardOf all env o = guardOf all env' o := by
  unfold guardOf
  cases hg : o.guard with
  | none => rfl
  | some jw =>
    obtain ⟨j, want⟩ := jw
    dsimp only
    cases hd : (all[j]?).bind (·.dst) with
    | none => rfl
    | some g =>
      dsimp only
      rw [h g]
      refine List.mem_append_right _ ?_
      rw [hg]
      have hd' : ((all.toArray[j]?).bind (·.dst)) = some g := by simpa using hd
      simp only
      rw [hd']
      simp
/-! ### What it writes -/
def Rec.upd (r : Rec) : List (Nat × Slot) := match r.e with
  | none => []
  | some e => e.upd ++ e.new.map fun z => (z.1, .live z.2 0 0)
def Rec.dst (r : Rec) : Option KV := match r.e with
  | none => some KV.nil
  | some e => e.dst
def Rec.app (r : Rec) (dst : Option Nat) (σ : St) : St := ⟨match dst with | some d => (fun x => bif Nat.beq x d then r.dst else σ.env x) | none => σ.env, updAll σ.sto r.upd⟩
theorem Rec.wr_upd (r : Rec) : r.tr.wr = r.upd.map (·.1) := by
  unfold Rec.tr Rec.upd
  cases r.e with
  | none => rfl
  | some e => simp [Eff.wr, Function.comp_def]
theorem updAll_append : ∀ (l m : List (Nat × Slot)) (s : Nat → Slot), updAll s (l ++ m) = updAll (updAll s l) m
  | [], _, _ => rfl
  | z :: l, m, s => updAll_append l m _
theorem updAll_new : ∀ (l : List (Nat × KV)) (s : Nat → Slot), l.foldl (fun s z => slotSet s z.1 (.live z.2 0 0)) s = updAll s (l.map fun z => (z.1, .live z.2 0 0))
  | [], _ => rfl
  | z :: l, s => updAll_new l _
theorem updAll_out : ∀ (l : List (Nat × Slot)) (s : Nat → Slot) (n : Nat), n ∉ l.map (·.1) → updAll s l n = s n
  | [], _, _, _ => rfl
  | z :: l, s, n, h => by
    simp only [List.map_cons, List.mem_cons, not_or] at h
    show updAll (slotSet s z.1 z.2) l n = _
    rw [updAll_out l _ n h.2]
    simp [slotSet, beq_ne h.1]
theorem updAll_in : ∀ (l : List (Nat × Slot)) (s s' : Nat → Slot) (n : Nat), (n ∈ l.map (·.1) ∨ s n = s' n) → updAll s l n = updAll s' l n
  | [], _, _, _, h => h.resolve_left (by simp)
  | z :: l, s, s', n, h => by
    show updAll (slotSet s z.1 z.2) l n = updAll (slotSet s' z.1 z.2) l n
    refine updAll_in l _ _ n ?_
    by_cases e : n = z.1
    · subst e; exact .inr (by simp [slotSet])
    · rcases h with h | h
      · simp only [List.map_cons, List.mem_cons] at h
        exact .inl (h.resolve_left e)
      · exact .inr (by simp [slotSet, beq_ne e, h])
theorem updAll_comm {l m : List (Nat × Slot)} (h : ∀ n ∈ l.map (·.1), n ∉ m.map (·.1)) (s : Nat → Slot) : updAll (updAll s l) m = updAll (updAll s m) l := by
  funext n
  by_cases h2 : n ∈ m.map (·.1)
  · have h1 : n ∉ l.map (·.1) := fun h1 => h n h1 h2
    rw [updAll_out l _ n h1]
    exact updAll_in m _ _ n (.inl h2)
  · rw [updAll_out m _ n h2]
    by_cases h1 : n ∈ l.map (·.1)
    · exact updAll_in l _ _ n (.inl h1)
    · rw [updAll_out l _ n h1, updAll_out l _ n h1, updAll_out m _ n h2]
theorem Rec.app_comm {p q : Rec} {d e : Option Nat} (hd : ∀ x, d = some x → e ≠ some x) (h : ∀ n ∈ p.upd.map (·.1), n ∉ q.upd.map (·.1)) (σ : St) : q.app e (p.app d σ) = p.app d (q.app e σ) := by
  unfold Rec.app
  dsimp only
  rw [updAll_comm h]
  congr 1
  cases d with
  | none => rfl
  | some d =>
    cases e with
    | none => rfl
    | some e =>
      have : d ≠ e := fun h => hd d rfl (by rw [h])
      funext x
      dsimp only
      by_cases h1 : x = e
      · subst h1; rw [beq_self]; simp [beq_ne (Ne.symm this)]
      · rw [beq_ne h1]; rfl
def Pre (orc : CallO) (rid : Rid) (all : List Oper) (σ : St) (o : Oper) (r : Rec) : Prop :=
  (Want all σ.env o false ∧ r = ⟨none, []⟩) ∨ ∃ e, Want all σ.env o true ∧ Acts orc rid σ o e ∧ r = ⟨some e, touchOf σ.env σ.sto o⟩ ∧ ∀ z ∈ e.new, Nat.blt z.1 PAR = true ∧ isFresh (σ.sto z.1) = true
theorem apply_iff {e : Eff} {t : List Nat} {dst : Option Nat} : e.apply dst σ = some σ' ↔ (∀ z ∈ e.new, Nat.blt z.1 PAR = true ∧ isFresh (σ.sto z.1) = true) ∧ σ' = (⟨some e, t⟩ : Rec).app dst σ := by
  unfold Eff.apply
  have e1 : e.new.foldl (fun s z => slotSet s z.1 (.live z.2 0 0)) (updAll σ.sto e.upd) = updAll σ.sto (⟨some e, t⟩ : Rec).upd := by rw [updAll_new, ← updAll_append]; rfl
  cases hb : e.new.all (fun z => Nat.blt z.1 PAR && isFresh (σ.sto z.1)) with
  | false =>
    constructor
    · intro h; cases h
    · rintro ⟨h, _⟩
      have : e.new.all (fun z => Nat.blt z.1 PAR && isFresh (σ.sto z.1)) = true := List.all_eq_true.2 fun z hz => by obtain ⟨h1, h2⟩ := h z hz; simp [h1, h2]
      rw [this] at hb; cases hb
  | true =>
    have h0 : ∀ z ∈ e.new, Nat.blt z.1 PAR = true ∧ isFresh (σ.sto z.1) = true := fun z hz => by
      have := List.all_eq_true.1 hb z hz
      simpa only [Bool.and_eq_true] using this
    simp only [cond_true, e1]
    cases dst with
    | none => exact ⟨fun h => ⟨h0, (Option.some.inj h).symm⟩, fun h => by rw [h.2]; rfl⟩
    | some d => exact ⟨fun h => ⟨h0, (Option.some.inj h).symm⟩, fun h => by rw [h.2]; rfl⟩
theorem does_iff {r : Rec} : Does orc rid all σ o r σ' ↔ Pre orc rid all σ o r ∧ σ' = r.app o.dst σ := by
  constructor
  · rintro (⟨h1, rfl, rfl⟩ | ⟨e, h1, h2, rfl, h4⟩)
    · refine ⟨.inl ⟨h1, rfl⟩, ?_⟩
      cases hd : o.dst <;> rfl
    · obtain ⟨h5, h6⟩ := (apply_iff (t := touchOf σ.env σ.sto o)).1 h4
      exact ⟨.inr ⟨e, h1, h2, rfl, h5⟩, h6⟩
  · rintro ⟨⟨h1, rfl⟩ | ⟨e, h1, h2, rfl, h4⟩, rfl⟩
    · refine .inl ⟨h1, rfl, ?_⟩
      cases hd : o.dst <;> rfl
    · exact .inr ⟨e, h1, h2, rfl, (apply_iff (t := touchOf σ.env σ.sto o)).2 ⟨h4, rfl⟩⟩
theorem Pre.congr {r : Rec} (h : Pre orc rid all σ o r) (hs : Same all.toArray o r.tr.touch σ τ) (hw : ∀ n ∈ r.tr.wr, σ.sto n = τ.sto n) : Pre orc rid all τ o r := by
  have hwant : ∀ b, Want all σ.env o b → Want all τ.env o b := fun b hb => by
    unfold Want at hb ⊢
    rw [← guardOf_congr hs.env]
    exact hb
  rcases h with ⟨h1, rfl⟩ | ⟨e, h1, ⟨hc, h2⟩, rfl, h4⟩
  · exact .inl ⟨hwant _ h1, rfl⟩
  · refine .inr ⟨e, hwant _ h1, ⟨hc, ?_⟩, ?_, fun z hz => ?_⟩
    · rw [hs.opR]; exact h2
    · rw [hs.touch]
    · obtain ⟨h5, h6⟩ := h4 z hz
      refine ⟨h5, ?_⟩
      rw [← hw z.1 (List.mem_append_right _ (List.mem_map.2 ⟨z, hz, rfl⟩))]
      exact h6
theorem disj_not {a b : List Nat} (h : disj a b = true) {n : Nat} (ha : n ∈ a) : n ∉ b := by
  intro hb
  have := List.all_eq_true.1 h n ha
  simp only [Bool.not_eq_true', List.any_eq_false] at this
  exact this n hb (Nat.beq_refl n)
theorem app_same {r : Rec} {x : Oper} {touch : List Nat} {arr : Array Oper} (h1 : ∀ d, x.dst = some d → d ∉ o.looksAt arr) (h2 : ∀ n ∈ r.tr.wr, n ∉ touch) : Same arr o touch σ (r.app x.dst σ) := by
  refine ⟨fun t ht => ?_, fun n hn => ?_⟩
  · unfold Rec.app
    cases hd : x.dst with
    | none => rfl
    | some d =>
      have : t ≠ d := fun e => h1 d hd (e ▸ ht)
      simp [beq_ne this]
  · show σ.sto n = updAll σ.sto r.upd n
    rw [updAll_out]
    rw [← Rec.wr_upd]
    exact fun h => h2 n h hn
theorem Does.exch {x y : Oper} {p q : Rec} {σ1 σ2 : St} (h1 : Does orc rid all σ x p σ1) (h2 : Does orc rid all σ1 y q σ2) (hx : exch all.toArray x y p.tr q.tr = true) :
    ∃ σ1', Does orc rid all σ y q σ1' ∧ Does orc rid all σ1' x p σ2 := by
  simp only [Eng.exch, Bool.and_eq_true] at hx
  obtain ⟨⟨⟨hap, d1⟩, d2⟩, d3⟩ := hx
  obtain ⟨a1, a2, a3⟩ := Oper.apart_spec hap
  rw [does_iff] at h1 h2
  obtain ⟨h1, rfl⟩ := h1
  obtain ⟨h2, rfl⟩ := h2
  have wr2 : ∀ n ∈ q.tr.wr, (p.app x.dst σ).sto n = σ.sto n := fun n hn => by
    show updAll σ.sto p.upd n = _
    rw [updAll_out]
    rw [← Rec.wr_upd]
    exact fun h => disj_not d2 h hn
  have wr1 : ∀ n ∈ p.tr.wr, σ.sto n = (q.app y.dst σ).sto n := fun n hn => by
    show _ = updAll σ.sto q.upd n
    rw [updAll_out]
    rw [← Rec.wr_upd]
    exact fun h => disj_not d2 hn h
  have s1 := app_same (σ := σ) (o := y) (x := x) (r := p) a1 (fun n hn => disj_not d1 hn)
  have s2 := app_same (σ := σ) (o := x) (x := y) (r := q) a3 (fun n hn => disj_not d3 hn)
  refine ⟨q.app y.dst σ, does_iff.2 ⟨h2.congr ⟨fun t ht => (s1.env t ht).symm, fun n hn => (s1.sto n hn).symm⟩ wr2, rfl⟩, does_iff.2 ⟨h1.congr s2 wr1, ?_⟩⟩
  exact Rec.app_comm a2 (fun n hn => by rw [← Rec.wr_upd] at hn ⊢; exact disj_not d2 hn) σ
end Go.Proofs.YtlffjoabajdfnaaGreat.Eng
/- Regions that draw their order. No condition. -/
set_option linter.unusedSectionVars false
set_option linter.unusedVariables false
namespace Go.Proofs.YtlffjoabajdfnaaGreat.Eng
variable [Tys] [Rb] [Cx]
variable {rid : Rid}
variable {F : Fr} {σ σ' τ σf : St} {a : Act} {w w' : World} {μ : Nat → Value} {own : Nat → Blk} {o : Oper} {s s' : Nat → Slot} {orc : CallO} {all : List Oper} {R : Nat → Rec} {b : List Nat}
def stE (orc : CallO) (rid : Rid) (all : List Oper) (R : Nat → Rec) (i : Nat) (K : St → Prop) (σ : St) : Prop :=
  match all[i]? with
  | none => K σ
  | some o => ∃ σ', Does orc rid all σ o (R i) σ' ∧ K σ'
def anyE (orc : CallO) (rid : Rid) (all : List Oper) (R : Nat → Rec) (σf : St) : Nat → Array Bool → St → Prop
  | 0, listed, σ => Region.ready .any all.toArray listed = [] ∧ σ = σf
  | fuel + 1, listed, σ => (Region.ready .any all.toArray listed = [] → σ = σf) ∧ ∀ i ∈ Region.ready .any all.toArray listed, stE orc rid all R i (anyE orc rid all R σf fuel (listed.setIfInBounds i true)) σ
/-! ### From the orders of the evaluator to those of the machine -/
theorem wpAny_of (G : Good) (H : CallOk orc) {Q : Exit → Act → World → Prop} : ∀ (fuel : Nat) (listed : Array Bool) (σ : St) (a : Act) (w : World), anyE orc rid all R σf fuel listed σ → InvE F σ a w → (∀ o ∈ all, Fits F a o) →
    (∀ a' w', InvE F σf a' w' → a'.tmps.size = a.tmps.size → Q .normal a' w') → wpAny Cx.P .any all.toArray Q fuel listed a w
  | 0, _, σ, a, w, h, I, _, hQ => ⟨h.1, hQ a w (h.2 ▸ I) rfl⟩
  | fuel + 1, listed, σ, a, w, h, I, hf, hQ => by
    refine ⟨fun h0 => hQ a w (h.1 h0 ▸ I) rfl, fun i hi => ?_⟩
    have h1 := h.2 i hi
    unfold stE at h1
    unfold wpOp
    have hi' : all.toArray[i]? = all[i]? := by simp
    rw [hi']
    cases ho : all[i]? with
    | none =>
      rw [ho] at h1
      exact wpAny_of G H fuel _ σ a w h1 I hf hQ
    | some o =>
      rw [ho] at h1
      obtain ⟨σ', hd, h2⟩ := h1
      have hfo : Fits F a o := hf o (List.mem_of_getElem? ho)
      have next : ∀ x w', InvE F σ' (a.put o.dst x) w' → wpAny Cx.P .any all.toArray Q fuel (listed.setIfInBounds i true) (a.put o.dst x) w' := fun x w' I' =>
        wpAny_of G H fuel _ σ' _ _ h2 I' (fun o' ho' d hd => by rw [put_size]; exact hf o' ho' d hd) (fun a' w' h1 h2 => hQ a' w' h1 (h2.trans (put_size _ _ _)))
      dsimp only
      rcases hd with ⟨hw, hr, rfl⟩ | ⟨e, hw, hact, hr, ha⟩
      · rw [hw.wanted I]
        exact next _ _ (I.skip hfo)
      · rw [hw.wanted I]
        exact .inl (hact.goes G H I hfo ha _ _ next)
/-! ### What waits for what -/
theorem edge_bit (b : List Nat) (i : Nat) : ∀ (es : List Edge) (s0 : Nat), (es.foldl (fun s e => cond (Region.binds .any e) (s ||| 2 ^ e.on ||| b.getD e.on 0) s) s0).testBit i = true →
    s0.testBit i = true ∨ ∃ e ∈ es, Region.binds .any e = true ∧ (e.on = i ∨ (b.getD e.on 0).testBit i = true)
  | [], _, h => .inl h
  | e :: es, s0, h => by
    rw [List.foldl_cons] at h
    rcases edge_bit b i es _ h with h | ⟨e', he, h1, h2⟩
    · cases hb : Region.binds .any e with
      | false => rw [hb] at h; exact .inl h
      | true =>
        rw [hb] at h
        simp only [cond_true, Nat.testBit_or, Bool.or_eq_true] at h
        rcases h with (h | h) | h
        · exact .inl h
        · rw [Nat.testBit_two_pow] at h
          exact .inr ⟨e, List.mem_cons_self, hb, .inl (by simpa using h)⟩
        · exact .inr ⟨e, List.mem_cons_self, hb, .inr h⟩
    · exact .inr ⟨e', List.mem_cons_of_mem _ he, h1, h2⟩
theorem befOk_spec : ∀ (os : List Oper) (j : Nat), befOk b os j = true → ∀ (k : Nat) (o : Oper), os[k]? = some o → b.getD (j + k) 0 = edgeMask b o.after.toList
  | [], _, _, k, o, h => by simp at h
  | x :: os, j, hb, k, o, h => by
    simp only [befOk, Bool.and_eq_true] at hb
    cases k with
    | zero =>
      obtain rfl : x = o := by simpa using h
      exact Nat.eq_of_beq_eq_true hb.1
    | succ k =>
      have := befOk_spec os (j + 1) hb.2 k o (by simpa using h)
      rw [← this]
      congr 1
      omega
def Bits (all : List Oper) (b : List Nat) : Prop := ∀ (j : Nat) (o : Oper), all[j]? = some o → b.getD j 0 = edgeMask b o.after.toList
def Down (b : List Nat) (listed : Array Bool) : Prop := ∀ m i, listed.getD m false = true → (b.getD m 0).testBit i = true → listed.getD i false = true
theorem ready_bits (hb : Bits all b) {listed : Array Bool} (hd : Down b listed) {j i : Nat} (hj : j ∈ Region.ready .any all.toArray listed) (h : (b.getD j 0).testBit i = true) : listed.getD i false = true := by
  obtain ⟨_, o, ho, hall⟩ := mem_ready.1 hj
  have ho' : all[j]? = some o := by simpa using ho
  rw [hb j o ho'] at h
  rcases edge_bit b i _ 0 h with h | ⟨e, he, h1, h2⟩
  · simp at h
  · have hl := hall e (by simpa using he) h1
    rcases h2 with rfl | h2
    · exact hl
    · exact hd _ _ hl h2
theorem Down.set (hb : Bits all b) {listed : Array Bool} (hd : Down b listed) {j : Nat} (hj : j ∈ Region.ready .any all.toArray listed) : Down b (listed.setIfInBounds j true) := by
  intro m i hm h
  by_cases e : j = m
  · subst e; exact getD_set_true (ready_bits hb hd hj h)
  · rw [getD_set_ne false e] at hm
    exact getD_set_true (hd m i hm h)
theorem unlisted {listed : Array Bool} {i : Nat} (h : listed.getD i true = false) : listed.getD i false ≠ true := by
  intro h2
  rcases Nat.lt_or_ge i listed.size with h' | h'
  · simp [h'] at h h2; rw [h] at h2; cases h2
  · simp [Array.getElem?_eq_none h'] at h2
/-! ### The first one may come later -/
theorem anyE_first (hb : Bits all b) {i : Nat} {oi : Oper} (hi : all[i]? = some oi) : ∀ (fuel : Nat) (listed : Array Bool) (σ σ1 : St), Down b listed →
    (∀ j oj, all[j]? = some oj → j ≠ i → listed.getD j true = false → (b.getD j 0).testBit i = false → exch all.toArray oi oj (R i).tr (R j).tr = true) →
    i ∈ Region.ready .any all.toArray listed → Does orc rid all σ oi (R i) σ1 → anyE orc rid all R σf fuel (listed.setIfInBounds i true) σ1 → anyE orc rid all R σf (fuel + 1) listed σ := by
  intro fuel
  induction fuel with
  | zero =>
    intro listed σ σ1 hd _ hr hy H
    refine ⟨fun h => (by rw [h] at hr; cases hr), fun j hj => ?_⟩
    by_cases hji : j = i
    · subst hji; unfold stE; rw [hi]; exact ⟨σ1, hy, H⟩
    · have := ready_mono hj hji
      rw [H.1] at this
      cases this
  | succ fuel ih =>
    intro listed σ σ1 hd hfree hr hy H
    refine ⟨fun h => (by rw [h] at hr; cases hr), fun j hj => ?_⟩
    by_cases hji : j = i
    · subst hji; unfold stE; rw [hi]; exact ⟨σ1, hy, H⟩
    · have h1 := H.2 j (ready_mono hj hji)
      obtain ⟨hjun, oj, hoj, _⟩ := mem_ready.1 hj
      have hoj : all[j]? = some oj := by simpa using hoj
      have hbit : (b.getD j 0).testBit i = false := by
        cases hbit : (b.getD j 0).testBit i with
        | false => rfl
        | true => exact absurd (ready_bits hb hd hj hbit) (unlisted (mem_ready.1 hr).1)
      unfold stE at h1 ⊢
      rw [hoj] at h1 ⊢
      obtain ⟨σ2, h2, h3⟩ := h1
      obtain ⟨σ1', h4, h5⟩ := hy.exch h2 (hfree j oj hoj hji hjun hbit)
      refine ⟨σ1', h4, ih (listed.setIfInBounds j true) σ1' σ2 (hd.set hb hj) (fun k ok hk hki hun hno => ?_) (ready_mono hr (Ne.symm hji)) h5 ?_⟩
      · refine hfree k ok hk hki ?_ hno
        by_cases hjk : j = k
        · subst hjk; exact hjun
        · rw [getD_set_ne true hjk] at hun; exact hun
      · rw [Array.setIfInBounds_comm _ _ hji]
        exact h3
def Upto (n k : Nat) (listed : Array Bool) : Prop := listed.size = n ∧ ∀ j, j < n → listed.getD j false = decide (j < k)
theorem Upto.getT {n k : Nat} {listed : Array Bool} (h : Upto n k listed) {j : Nat} (hj : j < n) : listed.getD j true = decide (j < k) := by
  have h1 := h.2 j hj
  have hlt : j < listed.size := by rw [h.1]; exact hj
  simp [hlt] at h1 ⊢
  exact h1
theorem Upto.set {n k : Nat} {listed : Array Bool} (h : Upto n k listed) (hk : k < n) : Upto n (k + 1) (listed.setIfInBounds k true) := by
  refine ⟨by simp [h.1], fun j hj => ?_⟩
  by_cases e : k = j
  · subst e
    have hlt : k < listed.size := by rw [h.1]; exact hk
    simp [hlt]
  · rw [getD_set_ne false e, h.2 j hj]
    exact decide_eq_decide.2 (by omega)
theorem lexGo_spec : ∀ (os : List Oper) (j : Nat), lexGo os j = true → ∀ (k : Nat) (o : Oper), os[k]? = some o → ∀ e ∈ o.after, Region.binds .any e = true → e.on < j + k
  | [], _, _, k, o, h => by simp at h
  | x :: os, j, hb, k, o, h => by
    simp only [lexGo, Bool.and_eq_true] at hb
    cases k with
    | zero =>
      obtain rfl : x = o := by simpa using h
      intro e he hbd
      have := List.all_eq_true.1 hb.1 e (by simpa using he)
      rw [hbd] at this
      simpa using this
    | succ k =>
      intro e he hbd
      have := lexGo_spec os (j + 1) hb.2 k o (by simpa using h) e he hbd
      omega
theorem laterOk_spec {arr : Array Oper} {i : Nat} {x : Oper} {p : Tr} : ∀ (ys : List (Oper × Tr)) (j : Nat), laterOk arr b i x p ys j = true → ∀ (k : Nat) (y : Oper × Tr), ys[k]? = some y → (b.getD (j + k) 0).testBit i = false → exch arr x y.1 p y.2 = true
  | [], _, _, k, y, h, _ => by simp at h
  | z :: ys, j, hb, k, y, h, hn => by
    simp only [laterOk, Bool.and_eq_true, Bool.or_eq_true] at hb
    cases k with
    | zero =>
      obtain rfl : z = y := by simpa using h
      rw [Nat.add_zero] at hn
      rw [hn] at hb
      exact hb.1.resolve_left (by simp)
    | succ k =>
      exact laterOk_spec ys (j + 1) hb.2 k y (by simpa using h) (by rw [← hn]; congr 2; omega)
theorem anyE_lex (hb : Bits all b) (hlex : lexGo all 0 = true) : ∀ (l : List Oper) (rs : List Rec) (k : Nat) (listed : Array Bool) (σ : St), (∀ j, l[j]? = all[k + j]?) → (∀ j r, rs[j]? = some r → R (k + j) = r) → Upto all.length k listed → Down b listed →
    drawGo all.toArray b (l.zip (rs.map Rec.tr)) k = true → RunE orc rid all l σ rs σf → anyE orc rid all R σf l.length listed σ
  | [], rs, k, listed, σ, hl, hR, hu, hd, hg, h => by
    cases h
    refine ⟨?_, rfl⟩
    refine List.eq_nil_iff_forall_not_mem.2 fun j hj => ?_
    obtain ⟨h0, o, ho, _⟩ := mem_ready.1 hj
    have ho : all[j]? = some o := by simpa using ho
    have hlt : j < all.length := (List.getElem?_eq_some_iff.1 ho).1
    have hk : all.length ≤ k := by
      have := hl 0
      simp only [List.getElem?_nil, Nat.add_zero] at this
      exact List.getElem?_eq_none_iff.1 this.symm
    rw [hu.getT hlt] at h0
    simp at h0
    omega
  | o :: l, _, k, listed, σ, hl, hR, hu, hd, hg, h => by
    cases h with
    | cons h1 h2 =>
      rename_i σ' r rs
      have h0 : all[k]? = some o := by simpa using (hl 0).symm
      have hlt : k < all.length := (List.getElem?_eq_some_iff.1 h0).1
      have hr : k ∈ Region.ready .any all.toArray listed := by
        refine mem_ready.2 ⟨by rw [hu.getT hlt]; simp, o, by simpa using h0, fun e he hbd => ?_⟩
        have := lexGo_spec all 0 hlex k o h0 e he hbd
        rw [hu.2 e.on (by omega)]
        simpa using this
      have hRk : R k = r := by simpa using hR 0 r rfl
      simp only [List.map_cons, List.zip_cons_cons, drawGo, Bool.and_eq_true] at hg
      have len : ∀ (os : List Oper) (σ : St) (rs : List Rec) (σf : St), RunE orc rid all os σ rs σf → rs.length = os.length := by
        intro os σ rs σf h
        induction h with
        | nil => rfl
        | cons _ _ ih => simp [ih]
      have hlen := len _ _ _ _ h2
      refine anyE_first hb h0 l.length listed σ σ' hd (fun j oj hoj hjk hun hbit => ?_) hr (by rw [hRk]; exact h1)
        (anyE_lex hb hlex l rs (k + 1) _ σ' (fun j => by have := hl (j + 1); simpa [Nat.add_assoc, Nat.add_comm 1 j] using this) (fun j r' hj => by have := hR (j + 1) r' (by simpa using hj); rw [← this]; congr 1; omega) (hu.set hlt) (hd.set hb hr) hg.2 h2)
      have hjlt : j < all.length := (List.getElem?_eq_some_iff.1 hoj).1
      rw [hu.getT hjlt] at hun
      have hjk' : k < j := by simp at hun; omega
      obtain ⟨m, rfl⟩ : ∃ m, j = k + 1 + m := ⟨j - (k + 1), by omega⟩
      have hm : l[m]? = some oj := by
        have := hl (m + 1)
        rw [List.getElem?_cons_succ] at this
        rw [this, ← hoj]
        congr 1
        omega
      obtain ⟨rm, hrm⟩ : ∃ rm, rs[m]? = some rm := ⟨_, List.getElem?_eq_getElem (by rw [hlen]; exact (List.getElem?_eq_some_iff.1 hm).1)⟩
      have hRm : R (k + 1 + m) = rm := by
        have := hR (m + 1) rm (by simpa using hrm)
        rw [← this]
        congr 1
        omega
      rw [hRk, hRm]
      exact laterOk_spec _ _ hg.1 m (oj, rm.tr) (by rw [List.getElem?_zip_eq_some]; exact ⟨hm, by simp [hrm]⟩) hbit
theorem InvE.drawn (I : InvE F σ a w) : InvE F σ a { w with drawn := w.drawn + 1 } := by
  obtain ⟨μ, own, I⟩ := I
  have T : Turn σ.sto σ.sto w { w with drawn := w.drawn + 1 } μ μ own own :=
    ⟨Nat.le_refl _, fun _ _ => rfl, fun n _ => .inl rfl, fun b _ h => absurd rfl h, fun n kv p q hn b _ ho => ⟨n, kv, p, q, hn, ho, .inl rfl⟩⟩
  refine ⟨μ, own, ?_⟩
  exact I.turn T ⟨rfl, rfl, rfl⟩ I.low (fun n kv p q _ _ => rfl) (fun n kv p q _ h => absurd rfl h) I.ents.disj
theorem wp_draw (G : Good) (H : CallOk orc) {id : Nat} {ops : Array Oper} {Q : Exit → Act → World → Prop} {rs : List Rec} (hr : RunE orc rid ops.toList ops.toList σ rs σf) (hd : drawOk ops.toList (rs.map Rec.tr) = true) (I : InvE F σ a w)
    (hf : ∀ o ∈ ops.toList, Fits F a o) (hQ : ∀ a' w', InvE F σf a' w' → a'.tmps.size = a.tmps.size → Q .normal a' w') : (Code.region id ops true).wp Cx.P Q a w := by
  refine wp_region_any G.mixed ?_
  simp only [drawOk, Bool.and_eq_true] at hd
  obtain ⟨⟨h1, h2⟩, h3⟩ := hd
  have hb : Bits ops.toList (befs ops.toList []) := fun j o ho => by simpa using befOk_spec _ 0 h1 j o ho
  have hany := anyE_lex (orc := orc) (σf := σf) (R := fun i => rs.getD i ⟨none, []⟩) hb h2 ops.toList rs 0 (Array.replicate ops.size false) σ (by simp) (fun j r hj => by simp [hj])
    ⟨by simp, fun j hj => (by rw [Array.length_toList] at hj; rw [Array.getD_eq_getD_getElem?, Array.getElem?_replicate, if_pos hj]; simp)⟩ (fun m i hm _ => by
      rw [Array.getD_eq_getD_getElem?] at hm
      rcases Nat.lt_or_ge m ops.size with h | h
      · simp [h] at hm
      · rw [Array.getElem?_eq_none (by simpa using h)] at hm; cases hm) h3 hr
  have := wpAny_of G H (Q := Q) _ _ _ _ _ hany I.drawn hf hQ
  simpa using this
end Go.Proofs.YtlffjoabajdfnaaGreat.Eng
/- Bodies: the machine runs them as the evaluator says. No condition. -/
set_option linter.unusedSectionVars false
set_option linter.unusedVariables false
namespace Go.Proofs.YtlffjoabajdfnaaGreat.Eng
variable [Tys] [Rb] [Cx]
variable {rid : Rid}
variable {F : Fr} {σ σ' τ σf : St} {a a' : Act} {w w' : World} {μ : Nat → Value} {own : Nat → Blk} {o : Oper} {orc : CallO} {head : HeadO} {fn : Func} {f : Nat}
def Ends (f : Nat) (todo : List Item) (a : Act) (w : World) (R : Value → World → Prop) : Prop :=
  ∀ (b : Frame) (cs : List Frame), b.fn = f → b.kind = .normal → ∃ v w' fr, R v w' ∧ Steps Cx.P (lone (b.at a todo) cs w) (lone fr cs w') ∧ fr.fn = f ∧ fr.leaving Cx.P w' (.returned v)
theorem Ends.go {todo todo' : List Item} {R : Value → World → Prop} (hs : ∀ (b : Frame) (cs : List Frame), Go.step Cx.P (lone (b.at a todo) cs w) = .next (lone (b.at a todo') cs w)) (h : Ends f todo' a w R) : Ends f todo a w R := by
  intro b cs hb hk
  obtain ⟨v, w', fr, h1, h2, h3⟩ := h b cs hb hk
  exact ⟨v, w', fr, h1, .head (hs b cs) h2, h3⟩
theorem Ends.done {todo : List Item} {R : Value → World → Prop} {v : Value} (hfn : Cx.P.funcs[f]? = some fn) (hd : a.defers = []) (hr : (results fn a.tmps).run Cx.P w = .ok v w) (hR : R v w)
    (hs : ∀ (b : Frame) (cs : List Frame), Go.step Cx.P (lone (b.at a todo) cs w) = .next (lone { b.at a todo with mode := .returning } cs w)) : Ends f todo a w R := by
  intro b cs hb hk
  exact ⟨v, w, _, hR, .one (hs b cs), hb, rfl, hd, hk, fn, by show Cx.P.funcs[b.fn]? = _; rw [hb]; exact hfn, hr⟩
theorem Ends.wp {c : Code} {k : List Item} {R : Value → World → Prop} (h : c.wp Cx.P (fun e a' w' => e = .normal ∧ Ends f k a' w' R) a w) : Ends f (.code c :: k) a w R := by
  intro b cs hb hk
  obtain ⟨e, a', w', ⟨rfl, h1⟩, h2⟩ := h b k cs
  obtain ⟨v, w2, fr, h3, h4, h5⟩ := h1 b cs hb hk
  exact ⟨v, w2, fr, h3, Steps.trans h2 h4, h5⟩
theorem Ends.calls {c : Code} {args : Array Value} {R : Value → World → Prop} (hfn : Cx.P.funcs[f]? = some fn) (hb : fn.body = some c) (h : Ends f [.code c] { tmps := args ++ Array.replicate (fn.ntmps - args.size) undef, defers := [] } w R) :
    Calls Cx.P f args w fun e w' => ∃ v, e = .returned v ∧ R v w' := by
  intro cs
  let b : Frame := { (default : Frame) with fn := f, kind := .normal }
  have henter : Frame.enter Cx.P f args .normal = b.at { tmps := args ++ Array.replicate (fn.ntmps - args.size) undef, defers := [] } [.code c] := by
    simp [Frame.enter, Frame.at, hfn, hb, b]
  obtain ⟨v, w', fr, h1, h2, h3, h4⟩ := h b cs rfl rfl
  exact ⟨.returned v, w', fr, ⟨v, rfl, h1⟩, by rw [henter]; exact h2, h3, h4⟩
abbrev BackT := (rt : Ty) → Ow → D rt → Value → World → Prop
structure BodyOk (F : Fr) (f : Nat) (fn : Func) (modes : List Mode) (orc : CallO) (head : HeadO) (B : BackT) : Prop where
  hfn : Cx.P.funcs[f]? = some fn
  ps : F.ps = iosAt modes 0
  calls : CallOk orc
  ret : ∀ σ a w rt ro r, InvE F σ a w → retOf fn modes σ rt ro = some r → ∃ v, (results fn a.tmps).run Cx.P w = .ok v w ∧ B rt ro r v w
  stop : ∀ σ a w live, InvE F σ a w → InvE F (stopAt live σ).st a w
  head : ∀ todo h rt ro r a w, head todo h rt ro = some r → InvE F h.st a w → a.tmps.size = fn.ntmps → Ends f todo a w (B rt ro r)
theorem InvE.defers (I : InvE F σ a w) : a.defers = [] := by obtain ⟨_, _, I⟩ := I; exact I.defers
theorem ev_ends (G : Good) {modes : List Mode} {B : BackT} (H : BodyOk F f fn modes orc head B) {rt : Ty} {ro : Ow} {r : D rt} : ∀ (n : Nat) (first : Bool) (todo : List Item) (σ : St) (a : Act) (w : World),
    ev orc head f fn modes rt ro n first todo σ = some r → InvE F σ a w → a.tmps.size = fn.ntmps → Ends f todo a w (B rt ro r)
  | 0, _, _, _, _, _, h, _, _ => by cases h
  | n + 1, first, [], σ, a, w, h, I, hs => by
    obtain ⟨v, h1, h2⟩ := H.ret σ a w rt ro r I h
    exact Ends.done H.hfn I.defers h1 h2 fun b cs => step_end
  | n + 1, first, .inBlock _ :: k, σ, a, w, h, I, hs => (ev_ends G H n first k σ a w h I hs).go fun b cs => step_inBlock
  | n + 1, first, .inLoop c :: k, σ, a, w, h, I, hs => (ev_ends G H n first _ σ a w h I hs).go fun b cs => step_inLoop
  | n + 1, first, .code c :: k, σ, a, w, h, I, hs => by
    cases c with
    | skip => exact (ev_ends G H n first k σ a w h I hs).go fun b cs => step_skip
    | label l => exact (ev_ends G H n first k σ a w h I hs).go fun b cs => step_label
    | seq x y => exact (ev_ends G H n first _ σ a w h I hs).go fun b cs => step_seq
    | block id x => exact (ev_ends G H n first _ σ a w h I hs).go fun b cs => step_block
    | loop x => exact (ev_ends G H n first _ σ a w h I hs).go fun b cs => step_loop
    | exit id =>
      simp only [ev] at h
      split at h
      · rename_i k' hk
        exact (ev_ends G H n first k' σ a w h I hs).go fun b cs => step_exit hk
      · cases h
    | ret =>
      obtain ⟨v, h1, h2⟩ := H.ret σ a w rt ro r I h
      exact Ends.done H.hfn I.defers h1 h2 fun b cs => step_ret
    | cond c x y =>
      simp only [ev] at h
      split at h
      · rename_i c' b ow t hv
        have he : σ.env t = some ⟨.bool, b, ow⟩ := hv
        have hc : a.eval (.tmp t) = .bool b := by
          obtain ⟨_, _, I⟩ := I
          exact kt_bool (I.env t _ he)
        cases b with
        | true =>
          simp only [cond_true, put_self he] at h
          exact (ev_ends G H n first _ σ a w h I hs).go fun b cs => step_cond hc
        | false =>
          simp only [cond_false, put_self he] at h
          exact (ev_ends G H n first _ σ a w h I hs).go fun b cs => step_cond hc
      · cases h
    | region id ops draw =>
      simp only [ev] at h
      cases hfit : fitAll fn.ntmps (iosAt modes 0) ops.toList with
      | false => rw [hfit] at h; cases h
      | true =>
        rw [hfit] at h
        rw [← H.ps] at hfit
        simp only [Bool.not_true, cond_false] at h
        have go : evOps orc ⟨id, Cx.TAKE f id, Cx.HOLE f id⟩ ops.toList draw ops.toList [] σ (fun σ => match joinAll σ.sto (Cx.JOIN f id) with
          | some s => ev orc head f fn modes rt ro n false k ⟨σ.env, s⟩
          | none => none) = some r → Ends f (.code (.region id ops draw) :: k) a w (B rt ro r) := by
          intro h
          obtain ⟨rs, σf, h1, h2, h3⟩ := evOps_run _ _ _ h
          refine Ends.wp ?_
          have hQ : ∀ a' w', InvE F σf a' w' → a'.tmps.size = a.tmps.size → Exit.normal = Exit.normal ∧ Ends f k a' w' (B rt ro r) := fun a' w' I' hs' => ⟨rfl, by
            split at h2
            · rename_i s' hj
              exact ev_ends G H n false k ⟨σf.env, s'⟩ a' w' h2 (joinAll_inv _ σf s' I' hj) (hs'.trans hs)
            · cases h2⟩
          cases draw with
          | false =>
            have := wp_plain G H.calls (Q := fun e a' w' => e = .normal ∧ Ends f k a' w' (B rt ro r)) _ _ _ a w h1 I (fitAll_fits hfit hs) hQ
            exact wp_region_list (by simpa using this)
          | true =>
            exact wp_draw G H.calls h1 (by simpa using h3 rfl) I (fitAll_fits hfit hs) hQ
        cases first with
        | true => exact go h
        | false =>
          simp only [cond_false] at h
          split at h
          · rename_i live hst
            exact H.head _ _ rt ro r a w h (H.stop σ a w live I) hs
          · exact go h
    | _ => simp only [ev] at h; cases h
end Go.Proofs.YtlffjoabajdfnaaGreat.Eng
/- Stops: names anew. No condition. -/
set_option linter.unusedSectionVars false
set_option linter.unusedVariables false
namespace Go.Proofs.YtlffjoabajdfnaaGreat.Eng
variable [Tys] [Rb] [Cx]
variable {F : Fr} {σ : St} {a : Act} {w : World} {μ : Nat → Value} {own : Nat → Blk} {s : Nat → Slot} {m : List Nat}
theorem any_mem {n : Nat} {l : List Nat} : l.any (Nat.beq n) = true ↔ n ∈ l := by
  rw [List.any_eq_true]
  constructor
  · rintro ⟨x, hx, he⟩
    have := Nat.eq_of_beq_eq_true he
    subst this
    exact hx
  · exact fun h => ⟨n, h, Nat.beq_refl n⟩
theorem dedup_nodup : ∀ (l : List Nat), (dedup l).Nodup
  | [] => List.nodup_nil
  | x :: l => by
    simp only [dedup]
    cases h : (dedup l).any (Nat.beq x) with
    | true => exact dedup_nodup l
    | false =>
      refine List.nodup_cons.2 ⟨fun hm => ?_, dedup_nodup l⟩
      rw [any_mem.2 hm] at h
      cases h
theorem dedupL_mem {n : Nat × Nat} : ∀ {l : List (Nat × Nat)}, n ∈ dedupL l ↔ n ∈ l
  | [] => Iff.rfl
  | x :: l => by
    simp only [dedupL]
    cases h : lnIn x (dedupL l) with
    | false => simp [dedupL_mem (l := l)]
    | true =>
      unfold lnIn at h
      rw [List.any_eq_true] at h
      obtain ⟨y, hy, he⟩ := h
      simp only [Bool.and_eq_true] at he
      have : x = y := Prod.ext (Nat.eq_of_beq_eq_true he.1) (Nat.eq_of_beq_eq_true he.2)
      subst this
      rw [dedupL_mem] at hy
      simp only [cond_true, List.mem_cons, dedupL_mem (l := l)]
      exact ⟨.inr, fun h' => h'.elim (fun e => e ▸ hy) id⟩
theorem idxOf_spec {n : Nat} : ∀ {l : List Nat} {k i : Nat}, idxOf n l k = some i → k ≤ i ∧ l[i - k]? = some n
  | [], _, _, h => by cases h
  | x :: l, k, i, h => by
    simp only [idxOf] at h
    cases e : Nat.beq x n with
    | true =>
      rw [e] at h
      obtain rfl := Option.some.inj h
      have := Nat.eq_of_beq_eq_true e
      subst this
      exact ⟨Nat.le_refl _, by simp⟩
    | false =>
      rw [e] at h
      obtain ⟨h1, h2⟩ := idxOf_spec (l := l) h
      refine ⟨by omega, ?_⟩
      rw [show i - k = (i - (k + 1)) + 1 by omega]
      simpa using h2
theorem idxOf_mem {n : Nat} : ∀ {l : List Nat} (k : Nat), n ∈ l → ∃ i, idxOf n l k = some i
  | x :: l, k, h => by
    simp only [idxOf]
    cases e : Nat.beq x n with
    | true => exact ⟨k, rfl⟩
    | false =>
      rcases List.mem_cons.1 h with rfl | h
      · rw [Nat.beq_refl] at e; cases e
      · exact idxOf_mem (k + 1) h
def muS (m : List Nat) (μ : Nat → Value) : Nat → Value := fun n => bif Nat.beq n FRZ then .bool false else μ (m.getD (n - CAN) 0)
def ownS (m : List Nat) (own : Nat → Blk) : Nat → Blk := fun n b => n ≠ FRZ ∧ own (m.getD (n - CAN) 0) b
def stoS (s : Nat → Slot) (m : List Nat) : Nat → Slot := fun n => bif Nat.beq n FRZ then .live ⟨.bool, false, .lit⟩ 0 0 else bif Nat.ble CAN n then (m.map fun n => renSlot s m (s n)).getD (n - CAN) .fresh else .fresh
theorem muS_can {i n : Nat} (h : m[i]? = some n) : muS m μ (CAN + i) = μ n := by
  unfold muS
  have : CAN + i ≠ FRZ := by unfold CAN FRZ; omega
  rw [beq_ne this, cond_false, Nat.add_sub_cancel_left]
  simp [h]
theorem stoS_can {i : Nat} : stoS s m (CAN + i) = (m.map fun n => renSlot s m (s n)).getD i .fresh := by
  unfold stoS
  have : CAN + i ≠ FRZ := by unfold CAN FRZ; omega
  rw [beq_ne this, cond_false, Nat.add_sub_cancel_left, Nat.ble_eq_true_of_le (Nat.le_add_right _ _)]
  rfl
theorem stoS_at {i n : Nat} (h : m[i]? = some n) : stoS s m (CAN + i) = renSlot s m (s n) := by
  rw [stoS_can, List.getD_eq_getElem?_getD, List.getElem?_map, h]
  rfl
theorem stoS_live {n : Nat} {kv : KV} {p q : Nat} (h : stoS s m n = .live kv p q) : p = 0 ∧ q = 0 ∧ ((n = FRZ ∧ kv = ⟨.bool, false, .lit⟩) ∨ ∃ i k kv' p' q', n = CAN + i ∧ m[i]? = some k ∧ s k = .live kv' p' q' ∧ kv'.o.clean s m = true ∧ kv = ⟨kv'.t, kv'.v, kv'.o.ren m⟩) := by
  by_cases e : n = FRZ
  · subst e
    unfold stoS at h
    rw [beq_self] at h
    cases h
    exact ⟨rfl, rfl, .inl ⟨rfl, rfl⟩⟩
  · by_cases hc : CAN ≤ n
    · obtain ⟨i, rfl⟩ : ∃ i, n = CAN + i := ⟨n - CAN, by omega⟩
      cases hi : m[i]? with
      | none =>
        rw [stoS_can, List.getD_eq_getElem?_getD, List.getElem?_map, hi] at h
        cases h
      | some k =>
        rw [stoS_at hi] at h
        unfold renSlot at h
        split at h
        · rename_i kv' p' q' hk
          cases hcl : kv'.o.clean s m with
          | false => rw [hcl] at h; cases h
          | true =>
            rw [hcl] at h
            cases h
            exact ⟨rfl, rfl, .inr ⟨i, k, kv', p', q', rfl, hi, hk, hcl, rfl⟩⟩
        · cases h
    · unfold stoS at h
      rw [beq_ne e, cond_false] at h
      have : Nat.ble CAN n = false := by
        cases hb : Nat.ble CAN n with
        | false => rfl
        | true => exact absurd (Nat.le_of_ble_eq_true hb) hc
      rw [this] at h
      cases h
theorem stoS_known {i n : Nat} (h : m[i]? = some n) : stoS s m (CAN + i) ≠ .fresh := by
  rw [stoS_at h]
  unfold renSlot
  split
  · rename_i kv _ _ _
    cases kv.o.clean s m <;> simp
  · simp
theorem clean_fst {o : Ow} (h : o.clean s m = true) : o.fst.clean s m = true := by
  cases o <;> simp_all [Ow.fst, Ow.clean]
theorem clean_snd {o : Ow} (h : o.clean s m = true) : o.snd.clean s m = true := by
  cases o <;> simp_all [Ow.snd, Ow.clean]
theorem ren_fst (o : Ow) : (o.ren m).fst = o.fst.ren m := by
  cases o with
  | ref n => simp only [Ow.ren]; cases idxOf n m 0 <;> rfl
  | pair x y => simp only [Ow.ren, Ow.fst_mk]; rfl
  | _ => rfl
theorem ren_snd (o : Ow) : (o.ren m).snd = o.snd.ren m := by
  cases o with
  | ref n => simp only [Ow.ren]; cases idxOf n m 0 <;> rfl
  | pair x y => simp only [Ow.ren, Ow.snd_mk]; rfl
  | _ => rfl
theorem clean_mk {x y : Ow} : (Ow.mk x y).clean s m = (x.clean s m && y.clean s m) := by
  unfold Ow.mk; split <;> simp_all [Ow.clean]
theorem ren_mk {x y : Ow} : (Ow.mk x y).ren m = Ow.mk (x.ren m) (y.ren m) := by
  unfold Ow.mk
  split
  · rfl
  · rfl
theorem clean_roOf {ls : List (Nat × Nat)} (h : okLoans s ls = true) : ∀ t : Ty, (t.roOf ls).clean s m = true
  | .pair A B => by simp [Ty.roOf, clean_mk, clean_roOf h A, clean_roOf h B]
  | .tc A B => by simp [Ty.roOf, clean_mk, clean_roOf h A, clean_roOf h B]
  | .st _ r => clean_roOf h r
  | .fn _ c => clean_roOf h c
  | .unit => rfl
  | .bool => rfl
  | .str => rfl
  | .int _ => rfl
  | .sl _ => h
  | .bx _ => h
  | .pt _ => h
theorem ren_roOf {ls : List (Nat × Nat)} : ∀ t : Ty, (t.roOf ls).ren m = t.roOf (dedupL (ls.map (renL m)))
  | .pair A B => by simp only [Ty.roOf, ren_mk, ren_roOf A, ren_roOf B]
  | .tc A B => by simp only [Ty.roOf, ren_mk, ren_roOf A, ren_roOf B]
  | .st _ r => ren_roOf r
  | .fn _ c => ren_roOf c
  | .unit => rfl
  | .bool => rfl
  | .str => rfl
  | .int _ => rfl
  | .sl _ => rfl
  | .bx _ => rfl
  | .pt _ => rfl
theorem ren_RO (hlow : Low s) (hm : m.Nodup) (hlen : m.length ≤ 1000000) {ls : List (Nat × Nat)} {b : Nat} (hok : okLoans s ls = true) (h : (ctx s w μ own).RO ls b) : (ctx (stoS s m) w (muS m μ) (ownS m own)).RO (dedupL (ls.map (renL m))) b := by
  obtain ⟨h1, h2, h3⟩ := h
  refine ⟨h1, fun n kv p q hn ho => ?_, fun hp => ?_⟩
  · obtain ⟨rfl, rfl, ⟨rfl, _⟩ | ⟨i, k, kv', p', q', rfl, hi, hk, _, _⟩⟩ := stoS_live hn
    · exact absurd rfl ho.1
    · have ho' : own k b := by
        have := ho.2
        rw [Nat.add_sub_cancel_left] at this
        simpa [hi] using this
      obtain ⟨l, hl, e1, e2⟩ := h2 k kv' p' q' hk ho'
      obtain ⟨j, hj⟩ := idxOf_mem 0 (List.mem_of_getElem? hi)
      have hjk := (idxOf_spec hj).2
      rw [Nat.sub_zero] at hjk
      have hij : j = i := by
        obtain ⟨hj1, hj2⟩ := List.getElem?_eq_some_iff.1 hjk
        obtain ⟨hi1, hi2⟩ := List.getElem?_eq_some_iff.1 hi
        exact (List.getElem_inj hm).1 (hj2.trans hi2.symm)
      subst hij
      by_cases hP : PAR ≤ l.1
      · exact absurd (hlow l.1 hP) (by rw [e1, hk]; simp)
      · have hPb : Nat.ble PAR l.1 = false := by
          cases hb : Nat.ble PAR l.1 with
          | false => rfl
          | true => exact absurd (Nat.le_of_ble_eq_true hb) hP
        refine ⟨(CAN + j, l.2 % 2), dedupL_mem.2 (List.mem_map.2 ⟨l, hl, ?_⟩), rfl, ?_⟩
        · unfold renL
          rw [hPb, cond_false, e1, hj]
        · rcases e2 with e2 | ⟨e2, e3⟩
          · left; show l.2 % 2 = 2 * 0; omega
          · right
            refine ⟨by show l.2 % 2 = 2 * 0 + 1; omega, ?_⟩
            show headOf (muS m μ (CAN + j)) ≠ some b
            rw [muS_can hi]
            exact e3
  · have hall : ∀ l ∈ ls, PAR ≤ l.1 := fun l hl => by
      have := hp (renL m l) (dedupL_mem.2 (List.mem_map.2 ⟨l, hl, rfl⟩))
      unfold renL at this
      cases hb : Nat.ble PAR l.1 with
      | true => exact Nat.le_of_ble_eq_true hb
      | false =>
        rw [hb, cond_false] at this
        split at this
        · rename_i i hi
          have hi' := (idxOf_spec hi).2
          rw [Nat.sub_zero] at hi'
          have := (List.getElem?_eq_some_iff.1 hi').1
          unfold PAR CAN at *
          simp only at *
          omega
        · unfold PAR FRZ at this; simp only at this; omega
    obtain ⟨l, hl, hR⟩ := h3 hall
    refine ⟨l, dedupL_mem.2 (List.mem_map.2 ⟨l, hl, ?_⟩), hR⟩
    unfold renL
    rw [Nat.ble_eq_true_of_le (hall l hl)]
    rfl
theorem K_ren (hlow : Low s) (hm : m.Nodup) (hlen : m.length ≤ 1000000) : ∀ (t : Ty) (o : Ow) (v : D t) (cs : List Value) (S : Blk), o.clean s m = true → K (ctx s w μ own) t o v cs S → K (ctx (stoS s m) w (muS m μ) (ownS m own)) t (o.ren m) v cs S
  | .unit, _, _, _, _, _, h => h
  | .bool, _, _, _, _, _, h => h
  | .str, _, _, _, _, _, h => h
  | .fn _ _, _, _, _, _, _, h => h
  | .int _, _, _, _, _, _, h => h
  | .pair A B, o, v, cs, S, hc, h => by
    obtain ⟨c1, c2, S1, S2, rfl, h1, h2, h3, h4, h5⟩ := h
    exact ⟨c1, c2, S1, S2, rfl, by rw [ren_fst]; exact K_ren hlow hm hlen A _ _ _ _ (clean_fst hc) h1, by rw [ren_snd]; exact K_ren hlow hm hlen B _ _ _ _ (clean_snd hc) h2, h3, h4, h5⟩
  | .st i r, o, v, cs, S, hc, h => by
    obtain ⟨h0, h1⟩ := h
    exact ⟨h0, K_ren hlow hm hlen r _ _ _ _ hc h1⟩
  | .sl A, o, v, cs, S, hc, h => by
    cases o with
    | own e =>
      rcases h with h | ⟨b, off, cap, X, te, h1, h2, h3, h4, h5, Sr, h6, h7, h8⟩
      · exact .inl h
      · refine .inr ⟨b, off, cap, X, te, h1, h2, h3, h4, h5, Sr, h6, h7, fun i x hx => ?_⟩
        obtain ⟨xs, k1, k2⟩ := h8 i x hx
        exact ⟨xs, K_ren hlow hm hlen A e _ _ _ hc k1, k2⟩
    | ro ls =>
      obtain ⟨y, h1, h2, h3⟩ := h
      have hok : okLoans s ls = true := hc
      obtain ⟨Ad, cap, e1, e2, e3⟩ := h3 hok
      refine ⟨y, h1, h2, fun _ => ⟨Ad, cap, e1, e2, fun hne => ?_⟩⟩
      obtain ⟨ad, e4, e5, e6⟩ := e3 hne
      refine ⟨ad, e4, ren_RO hlow hm hlen hok e5, fun i x hx => ?_⟩
      obtain ⟨xs, k1, k2⟩ := e6 i x hx
      refine ⟨xs, ?_, k2⟩
      have := K_ren hlow hm hlen A _ _ _ _ (clean_roOf hok A) k1
      rw [ren_roOf] at this
      exact this
    | ref n =>
      have hn := any_mem.1 hc
      obtain ⟨i, hi⟩ := idxOf_mem 0 hn
      have hi' := (idxOf_spec hi).2
      rw [Nat.sub_zero] at hi'
      simp only [Ow.ren, hi]
      obtain ⟨h1, h2⟩ := h
      show cs = [muS m μ (CAN + i)] ∧ (muS m μ (CAN + i)).oneCell' = true
      rw [muS_can hi']
      exact ⟨h1, h2⟩
    | lit => exact h.elim
    | pair _ _ => exact h.elim
    | hole _ _ _ => cases hc
    | fld _ _ => exact h.elim
    | elt _ _ _ _ => exact h.elim
  | .bx A, o, v, cs, S, hc, h => by
    cases o with
    | own e =>
      obtain ⟨b, S', h1, h2, ⟨X, te, h3, h4⟩, h5⟩ := h
      exact ⟨b, S', h1, h2, ⟨X, te, h3, K_ren hlow hm hlen A e _ _ _ hc h4⟩, h5⟩
    | ref n =>
      have hn := any_mem.1 hc
      obtain ⟨i, hi⟩ := idxOf_mem 0 hn
      have hi' := (idxOf_spec hi).2
      rw [Nat.sub_zero] at hi'
      simp only [Ow.ren, hi]
      obtain ⟨h1, h2⟩ := h
      show cs = [muS m μ (CAN + i)] ∧ (muS m μ (CAN + i)).oneCell' = true
      rw [muS_can hi']
      exact ⟨h1, h2⟩
    | ro ls => exact h.elim
    | lit => exact h.elim
    | pair _ _ => exact h.elim
    | hole _ _ _ => cases hc
    | fld _ _ => exact h.elim
    | elt _ _ _ _ => exact h.elim
  | .pt A, o, v, cs, S, hc, h => by
    cases o with
    | ro ls =>
      obtain ⟨y, h1, h2, h3⟩ := h
      have hok : okLoans s ls = true := hc
      obtain ⟨ad, xs, e1, e2, e3, e4⟩ := h3 hok
      refine ⟨y, h1, h2, fun _ => ⟨ad, xs, e1, ren_RO hlow hm hlen hok e2, ?_, e4⟩⟩
      have := K_ren hlow hm hlen A _ _ _ _ (clean_roOf hok A) e3
      rw [ren_roOf] at this
      exact this
    | fld n off => cases hc
    | elt n off r i => cases hc
    | ref n => exact h.elim
    | own e => exact h.elim
    | lit => exact h.elim
    | pair _ _ => exact h.elim
    | hole _ _ _ => cases hc
theorem KT_ren (hlow : Low s) (hm : m.Nodup) (hlen : m.length ≤ 1000000) {t : Ty} {o : Ow} {v : D t} {x : Value} {S : Blk} (h1 : t.one = true) (hc : o.clean s m = true) (h : KT (ctx s w μ own) t o v x S) : KT (ctx (stoS s m) w (muS m μ) (ownS m own)) t (o.ren m) v x S := by
  have h := (KT_one h1).1 h
  refine (KT_one h1).2 ?_
  cases t <;> simp only [KT0] at h ⊢
  case st i r =>
    obtain ⟨cs, e, h⟩ := h
    exact ⟨cs, e, K_ren hlow hm hlen _ _ _ _ _ hc h⟩
  all_goals exact K_ren hlow hm hlen _ _ _ _ _ hc h
theorem ren_says : ∀ {o : Ow} {n : Nat}, o.clean s m = true → (o.ren m).says n → ∃ i k, n = CAN + i ∧ m[i]? = some k
  | .pair x y, n, hc, h => by
    simp only [Ow.ren, Ow.says_mk] at h
    simp only [Ow.clean, Bool.and_eq_true] at hc
    exact h.elim (ren_says hc.1) (ren_says hc.2)
  | .own e, n, hc, h => ren_says (o := e) hc h
  | .ref k, n, hc, h => by
    simp only [Ow.ren] at h
    cases hi : idxOf k m 0 with
    | none => rw [hi] at h; exact h.elim
    | some i =>
      rw [hi] at h
      have h : CAN + i = n := h
      have hi' := (idxOf_spec hi).2
      rw [Nat.sub_zero] at hi'
      exact ⟨i, k, h.symm, hi'⟩
  | .lit, _, _, h => h.elim
  | .ro _, _, _, h => h.elim
  | .fld k off, n, hc, h => by cases hc
  | .elt k off r i, n, hc, h => by cases hc
  | .hole _ _ _, n, hc, h => by cases hc
theorem ren_lns : ∀ {o : Ow}, ∀ l ∈ (o.ren m).lns, known (stoS s m) l
  | .pair x y, l, h => by
    simp only [Ow.ren, Ow.lns_mk] at h
    exact (List.mem_append.1 h).elim (ren_lns l) (ren_lns l)
  | .own e, l, h => ren_lns (o := e) l h
  | .ref k, l, h => by
    simp only [Ow.ren] at h
    cases hi : idxOf k m 0 with
    | none => rw [hi] at h; cases h
    | some i => rw [hi] at h; cases h
  | .ro ls, l, h => by
    simp only [Ow.ren, Ow.lns] at h
    rw [dedupL_mem] at h
    obtain ⟨l', _, rfl⟩ := List.mem_map.1 h
    unfold renL
    cases hb : Nat.ble PAR l'.1 with
    | true => exact .inl (Nat.le_of_ble_eq_true hb)
    | false =>
      rw [cond_false]
      split
      · rename_i i hi
        have hi' := (idxOf_spec hi).2
        rw [Nat.sub_zero] at hi'
        refine .inr ?_
        show (stoS s m (CAN + i)).knows (l'.2 % 2)
        cases hs : stoS s m (CAN + i) with
        | fresh => exact absurd hs (stoS_known hi')
        | gone => trivial
        | live kv p q =>
          obtain ⟨rfl, rfl, _⟩ := stoS_live hs
          exact ⟨fun h => by omega, fun h => by omega⟩
      · refine .inr ?_
        show (stoS s m FRZ).knows 0
        unfold stoS
        rw [beq_self]
        exact ⟨fun _ => Nat.le_refl _, fun h => by omega⟩
  | .lit, _, h => by cases h
  | .fld _ _, _, h => by cases h
  | .elt _ _ _ _, _, h => by cases h
  | .hole _ _ _, _, h => by cases h
theorem liveEnv_spec {env : Nat → Option KV} : ∀ (ts : List Nat) (x : Nat × KV), x ∈ liveEnv env ts → env x.1 = some x.2 ∧ x.2.t.one = true
  | [], x, h => by cases h
  | t :: ts, x, h => by
    simp only [liveEnv] at h
    split at h
    · rename_i kv hkv
      cases h1 : kv.t.one with
      | false => rw [h1] at h; exact liveEnv_spec ts x h
      | true =>
        rw [h1] at h
        rcases List.mem_cons.1 h with rfl | h
        · exact ⟨hkv, h1⟩
        · exact liveEnv_spec ts x h
    · exact liveEnv_spec ts x h
theorem renEnv_spec : ∀ (xs : List (Nat × KV)) (y : Nat × KV), y ∈ renEnv s m xs → ∃ x ∈ xs, x.2.o.clean s m = true ∧ y = (x.1, ⟨x.2.t, x.2.v, x.2.o.ren m⟩)
  | [], y, h => by cases h
  | x :: xs, y, h => by
    simp only [renEnv] at h
    cases hc : x.2.o.clean s m with
    | false =>
      rw [hc] at h
      obtain ⟨z, h1, h2⟩ := renEnv_spec xs y h
      exact ⟨z, List.mem_cons_of_mem _ h1, h2⟩
    | true =>
      rw [hc] at h
      rcases List.mem_cons.1 h with rfl | h
      · exact ⟨x, List.mem_cons_self, hc, rfl⟩
      · obtain ⟨z, h1, h2⟩ := renEnv_spec xs y h
        exact ⟨z, List.mem_cons_of_mem _ h1, h2⟩
theorem find_env {l : List (Nat × KV)} {t : Nat} {kv : KV} (h : (l.find? fun x => Nat.beq x.1 t).map (·.2) = some kv) : (t, kv) ∈ l := by
  cases hf : l.find? fun x => Nat.beq x.1 t with
  | none => rw [hf] at h; cases h
  | some x =>
    rw [hf] at h
    obtain rfl := Option.some.inj h
    have h1 := List.find?_some hf
    have h2 := List.mem_of_find?_eq_some hf
    have := Nat.eq_of_beq_eq_true h1
    subst this
    exact h2
theorem Inv.stop (I : Inv F σ a w μ own) (hm : m.Nodup) (hlen : m.length ≤ 1000000) {ts : List Nat} : Inv F (HS.st ⟨renEnv σ.sto m (liveEnv σ.env ts), m.map fun n => renSlot σ.sto m (σ.sto n)⟩) a w (muS m μ) (ownS m own) := by
  have hst : (HS.st ⟨renEnv σ.sto m (liveEnv σ.env ts), m.map fun n => renSlot σ.sto m (σ.sto n)⟩).sto = stoS σ.sto m := rfl
  have henv : ∀ t kv, (HS.st ⟨renEnv σ.sto m (liveEnv σ.env ts), m.map fun n => renSlot σ.sto m (σ.sto n)⟩).env t = some kv → ∃ kv', σ.env t = some kv' ∧ kv'.t.one = true ∧ kv'.o.clean σ.sto m = true ∧ kv = ⟨kv'.t, kv'.v, kv'.o.ren m⟩ := fun t kv h => by
    obtain ⟨x, hx, h1, h2⟩ := renEnv_spec _ _ (find_env h)
    obtain ⟨h3, h4⟩ := liveEnv_spec _ _ hx
    cases h2
    exact ⟨x.2, h3, h4, h1, rfl⟩
  have says : ∀ (o : Ow) n, o.clean σ.sto m = true → (o.ren m).says n → stoS σ.sto m n ≠ .fresh := fun o n hc h => by
    obtain ⟨i, k, rfl, hi⟩ := ren_says hc h
    exact stoS_known hi
  have can : ∀ {i k : Nat}, m[i]? = some k → ownS m own (CAN + i) = own k := fun {i k} hi => by
    funext b
    have : CAN + i ≠ FRZ := by unfold CAN FRZ; omega
    refine propext ⟨fun h => ?_, fun h => ⟨this, ?_⟩⟩
    · have := h.2; rw [Nat.add_sub_cancel_left] at this; simpa [hi] using this
    · rw [Nat.add_sub_cancel_left]; simpa [hi] using h
  refine ⟨fun t kv h => ?_, ⟨fun n kv p q h => ?_, fun n1 n2 ⟨kv1, p1, q1, h1⟩ ⟨kv2, p2, q2, h2⟩ hne b hb1 hb2 => ?_⟩, fun n hn => ?_, fun t kv h n hs => ?_, fun n kv p q h k hs => ?_, fun t kv h l hl => ?_, fun n kv p q h l hl => ?_, fun n kv p q h b hb => ?_,
    I.os, I.tape, I.output, I.size, I.frame, I.defers, I.heads⟩
  · obtain ⟨kv', h1, h2, h3, rfl⟩ := henv t kv h
    exact KT_ren I.low hm hlen h2 h3 (I.env t kv' h1)
  · obtain ⟨rfl, rfl, ⟨rfl, rfl⟩ | ⟨i, k, kv', p', q', rfl, hi, hk, hc, rfl⟩⟩ := stoS_live h
    · show [muS m μ FRZ] = [.bool false]
      unfold muS
      rw [beq_self]
      rfl
    · rw [can hi]
      show K _ _ _ _ [muS m μ (CAN + i)] _
      rw [muS_can hi]
      exact K_ren I.low hm hlen _ _ _ _ _ hc (I.ents.K k kv' p' q' hk)
  · obtain ⟨_, _, ⟨rfl, _⟩ | ⟨i, k, kv', p', q', rfl, hi, hk, _, _⟩⟩ := stoS_live h1
    · exact hb1.1 rfl
    · obtain ⟨_, _, ⟨rfl, _⟩ | ⟨j, k2, kv2', p2', q2', rfl, hj, hk2, _, _⟩⟩ := stoS_live h2
      · exact hb2.1 rfl
      · rw [can hi] at hb1
        rw [can hj] at hb2
        refine I.ents.disj k k2 ⟨_, _, _, hk⟩ ⟨_, _, _, hk2⟩ (fun e => hne ?_) b hb1 hb2
        subst e
        obtain ⟨hi1, hi2⟩ := List.getElem?_eq_some_iff.1 hi
        obtain ⟨hj1, hj2⟩ := List.getElem?_eq_some_iff.1 hj
        rw [(List.getElem_inj hm).1 (hi2.trans hj2.symm)]
  · rw [hst]
    have h1 : n ≠ FRZ := by unfold PAR at hn; unfold FRZ; omega
    obtain ⟨i, rfl⟩ : ∃ i, n = CAN + i := ⟨n - CAN, by unfold PAR at hn; unfold CAN; omega⟩
    rw [stoS_can, List.getD_eq_getElem?_getD, List.getElem?_eq_none]
    · rfl
    · simp only [List.length_map]; unfold PAR CAN at hn; omega
  · obtain ⟨kv', h1, h2, h3, rfl⟩ := henv t kv h
    exact says _ n h3 hs
  · obtain ⟨rfl, rfl, ⟨rfl, rfl⟩ | ⟨i, k', kv', p', q', rfl, hi, hk, hc, rfl⟩⟩ := stoS_live h
    · exact hs.elim
    · exact says _ k hc hs
  · obtain ⟨kv', h1, h2, h3, rfl⟩ := henv t kv h
    exact ren_lns l hl
  · obtain ⟨rfl, rfl, ⟨rfl, rfl⟩ | ⟨i, k', kv', p', q', rfl, hi, hk, hc, rfl⟩⟩ := stoS_live h
    · cases hl
    · exact ren_lns l hl
  · obtain ⟨_, _, ⟨rfl, _⟩ | ⟨i, k, kv', p', q', rfl, hi, hk, _, _⟩⟩ := stoS_live h
    · exact absurd rfl hb.1
    · rw [can hi] at hb
      exact I.bound k _ _ _ hk b hb
theorem InvE.stop (I : InvE F σ a w) (live : List Nat) : InvE F (stopAt live σ).st a w := by
  obtain ⟨μ, own, I⟩ := I
  unfold stopAt
  dsimp only
  generalize hn : dedup (_ ++ _) = n1
  have hnd : n1.Nodup := hn ▸ dedup_nodup _
  cases hb : Nat.ble n1.length 1000000 with
  | true => exact ⟨_, _, I.stop hnd (Nat.le_of_ble_eq_true hb)⟩
  | false => exact ⟨_, _, I.stop (m := []) (ts := []) List.nodup_nil (by simp)⟩
end Go.Proofs.YtlffjoabajdfnaaGreat.Eng
/- Calls: values from one world of loans to another. No condition. -/
set_option linter.unusedSectionVars false
set_option linter.unusedVariables false
namespace Go.Proofs.YtlffjoabajdfnaaGreat.Eng
variable [Tys] [Rb] [Cx]
variable {c c' : Wd} {p : List (Nat × Nat) → Bool} {g : List (Nat × Nat) → List (Nat × Nat)}
theorem allL_fst {o : Ow} (h : o.allL p = true) : o.fst.allL p = true := by
  cases o <;> simp_all [Ow.fst, Ow.allL]
theorem allL_snd {o : Ow} (h : o.allL p = true) : o.snd.allL p = true := by
  cases o <;> simp_all [Ow.snd, Ow.allL]
theorem allL_mk {x y : Ow} : (Ow.mk x y).allL p = (x.allL p && y.allL p) := by
  unfold Ow.mk; split <;> simp_all [Ow.allL]
theorem mapL_fst (o : Ow) : (o.mapL g).fst = o.fst.mapL g := by
  cases o with
  | pair x y => simp only [Ow.mapL, Ow.fst_mk]; rfl
  | _ => rfl
theorem mapL_snd (o : Ow) : (o.mapL g).snd = o.snd.mapL g := by
  cases o with
  | pair x y => simp only [Ow.mapL, Ow.snd_mk]; rfl
  | _ => rfl
theorem mapL_mk {x y : Ow} : (Ow.mk x y).mapL g = Ow.mk (x.mapL g) (y.mapL g) := by
  unfold Ow.mk
  split
  · rfl
  · rfl
theorem allL_roOf {ls : List (Nat × Nat)} (h : p ls = true) : ∀ t : Ty, (t.roOf ls).allL p = true
  | .pair A B => by simp [Ty.roOf, allL_mk, allL_roOf h A, allL_roOf h B]
  | .tc A B => by simp [Ty.roOf, allL_mk, allL_roOf h A, allL_roOf h B]
  | .st _ r => allL_roOf h r
  | .fn _ c => allL_roOf h c
  | .unit => rfl
  | .bool => rfl
  | .str => rfl
  | .int _ => rfl
  | .sl _ => h
  | .bx _ => h
  | .pt _ => h
theorem mapL_roOf {ls : List (Nat × Nat)} : ∀ t : Ty, (t.roOf ls).mapL g = t.roOf (g ls)
  | .pair A B => by simp only [Ty.roOf, mapL_mk, mapL_roOf A, mapL_roOf B]
  | .tc A B => by simp only [Ty.roOf, mapL_mk, mapL_roOf A, mapL_roOf B]
  | .st _ r => mapL_roOf r
  | .fn _ c => mapL_roOf c
  | .unit => rfl
  | .bool => rfl
  | .str => rfl
  | .int _ => rfl
  | .sl _ => rfl
  | .bx _ => rfl
  | .pt _ => rfl
structure Lends (c c' : Wd) (p : List (Nat × Nat) → Bool) (g : List (Nat × Nat) → List (Nat × Nat)) : Prop where
  w : c'.w = c.w
  ok : ∀ ls, p ls = true → c.ok ls
  ro : ∀ ls b, p ls = true → c.RO ls b → c'.RO (g ls) b
theorem K_map (H : Lends c c' p g) : ∀ (t : Ty) (o : Ow) (v : D t) (cs : List Value) (S : Blk), o.allL p = true → K c t o v cs S → K c' t (o.mapL g) v cs S
  | .unit, _, _, _, _, _, h => h
  | .bool, _, _, _, _, _, h => h
  | .str, _, _, _, _, _, h => h
  | .fn _ _, _, _, _, _, _, h => h
  | .int _, _, _, _, _, _, h => h
  | .pair A B, o, v, cs, S, hc, h => by
    obtain ⟨c1, c2, S1, S2, rfl, h1, h2, h3, h4, h5⟩ := h
    exact ⟨c1, c2, S1, S2, rfl, by rw [mapL_fst]; exact K_map H A _ _ _ _ (allL_fst hc) h1, by rw [mapL_snd]; exact K_map H B _ _ _ _ (allL_snd hc) h2, h3, h4, h5⟩
  | .st i r, o, v, cs, S, hc, h => by
    obtain ⟨h0, h1⟩ := h
    exact ⟨h0, K_map H r _ _ _ _ hc h1⟩
  | .sl A, o, v, cs, S, hc, h => by
    cases o with
    | own e =>
      rcases h with h | ⟨b, off, cap, X, te, h1, h2, h3, h4, h5, Sr, h6, h7, h8⟩
      · exact .inl h
      · refine .inr ⟨b, off, cap, X, te, h1, h2, h3, by rw [H.w]; exact h4, h5, Sr, h6, h7, fun i x hx => ?_⟩
        obtain ⟨xs, k1, k2⟩ := h8 i x hx
        exact ⟨xs, K_map H A e _ _ _ hc k1, by rw [H.w]; exact k2⟩
    | ro ls =>
      obtain ⟨y, h1, h2, h3⟩ := h
      have hok : p ls = true := hc
      obtain ⟨Ad, cap, e1, e2, e3⟩ := h3 (H.ok _ hok)
      refine ⟨y, h1, h2, fun _ => ⟨Ad, cap, e1, e2, fun hne => ?_⟩⟩
      obtain ⟨ad, e4, e5, e6⟩ := e3 hne
      refine ⟨ad, e4, H.ro _ _ hok e5, fun i x hx => ?_⟩
      obtain ⟨xs, k1, k2⟩ := e6 i x hx
      refine ⟨xs, ?_, by rw [H.w]; exact k2⟩
      have := K_map H A _ _ _ _ (allL_roOf hok A) k1
      rw [mapL_roOf] at this
      exact this
    | ref n => cases hc
    | lit => exact h.elim
    | pair _ _ => exact h.elim
    | hole _ _ _ => cases hc
    | fld _ _ => exact h.elim
    | elt _ _ _ _ => exact h.elim
  | .bx A, o, v, cs, S, hc, h => by
    cases o with
    | own e =>
      obtain ⟨b, S', h1, h2, ⟨X, te, h3, h4⟩, h5⟩ := h
      exact ⟨b, S', h1, h2, ⟨X, te, by rw [H.w]; exact h3, K_map H A e _ _ _ hc h4⟩, h5⟩
    | ref n => cases hc
    | ro ls => exact h.elim
    | lit => exact h.elim
    | pair _ _ => exact h.elim
    | hole _ _ _ => cases hc
    | fld _ _ => exact h.elim
    | elt _ _ _ _ => exact h.elim
  | .pt A, o, v, cs, S, hc, h => by
    cases o with
    | ro ls =>
      obtain ⟨y, h1, h2, h3⟩ := h
      have hok : p ls = true := hc
      obtain ⟨ad, xs, e1, e2, e3, e4⟩ := h3 (H.ok _ hok)
      refine ⟨y, h1, h2, fun _ => ⟨ad, xs, e1, H.ro _ _ hok e2, ?_, by rw [H.w]; exact e4⟩⟩
      have := K_map H A _ _ _ _ (allL_roOf hok A) e3
      rw [mapL_roOf] at this
      exact this
    | fld n off => cases hc
    | elt n off r i => cases hc
    | ref n => exact h.elim
    | own e => exact h.elim
    | lit => exact h.elim
    | pair _ _ => exact h.elim
    | hole _ _ _ => cases hc
theorem K_same (H : Lends c c' p id) : ∀ (t : Ty) (o : Ow) (v : D t) (cs : List Value) (S : Blk), o.allL p = true → K c t o v cs S → K c' t o v cs S
  | .unit, _, _, _, _, _, h => h
  | .bool, _, _, _, _, _, h => h
  | .str, _, _, _, _, _, h => h
  | .fn _ _, _, _, _, _, _, h => h
  | .int _, _, _, _, _, _, h => h
  | .pair A B, o, v, cs, S, hc, h => by
    obtain ⟨c1, c2, S1, S2, rfl, h1, h2, h3, h4, h5⟩ := h
    exact ⟨c1, c2, S1, S2, rfl, K_same H A _ _ _ _ (allL_fst hc) h1, K_same H B _ _ _ _ (allL_snd hc) h2, h3, h4, h5⟩
  | .st i r, o, v, cs, S, hc, h => by
    obtain ⟨h0, h1⟩ := h
    exact ⟨h0, K_same H r _ _ _ _ hc h1⟩
  | .sl A, o, v, cs, S, hc, h => by
    cases o with
    | own e =>
      rcases h with h | ⟨b, off, cap, X, te, h1, h2, h3, h4, h5, Sr, h6, h7, h8⟩
      · exact .inl h
      · refine .inr ⟨b, off, cap, X, te, h1, h2, h3, by rw [H.w]; exact h4, h5, Sr, h6, h7, fun i x hx => ?_⟩
        obtain ⟨xs, k1, k2⟩ := h8 i x hx
        exact ⟨xs, K_same H A e _ _ _ hc k1, by rw [H.w]; exact k2⟩
    | ro ls =>
      obtain ⟨y, h1, h2, h3⟩ := h
      have hok : p ls = true := hc
      obtain ⟨Ad, cap, e1, e2, e3⟩ := h3 (H.ok _ hok)
      refine ⟨y, h1, h2, fun _ => ⟨Ad, cap, e1, e2, fun hne => ?_⟩⟩
      obtain ⟨ad, e4, e5, e6⟩ := e3 hne
      refine ⟨ad, e4, H.ro _ _ hok e5, fun i x hx => ?_⟩
      obtain ⟨xs, k1, k2⟩ := e6 i x hx
      refine ⟨xs, ?_, by rw [H.w]; exact k2⟩
      have := K_same H A _ _ _ _ (allL_roOf hok A) k1
      exact this
    | ref n => cases hc
    | lit => exact h.elim
    | pair _ _ => exact h.elim
    | hole _ _ _ => cases hc
    | fld _ _ => exact h.elim
    | elt _ _ _ _ => exact h.elim
  | .bx A, o, v, cs, S, hc, h => by
    cases o with
    | own e =>
      obtain ⟨b, S', h1, h2, ⟨X, te, h3, h4⟩, h5⟩ := h
      exact ⟨b, S', h1, h2, ⟨X, te, by rw [H.w]; exact h3, K_same H A e _ _ _ hc h4⟩, h5⟩
    | ref n => cases hc
    | ro ls => exact h.elim
    | lit => exact h.elim
    | pair _ _ => exact h.elim
    | hole _ _ _ => cases hc
    | fld _ _ => exact h.elim
    | elt _ _ _ _ => exact h.elim
  | .pt A, o, v, cs, S, hc, h => by
    cases o with
    | ro ls =>
      obtain ⟨y, h1, h2, h3⟩ := h
      have hok : p ls = true := hc
      obtain ⟨ad, xs, e1, e2, e3, e4⟩ := h3 (H.ok _ hok)
      refine ⟨y, h1, h2, fun _ => ⟨ad, xs, e1, H.ro _ _ hok e2, ?_, by rw [H.w]; exact e4⟩⟩
      have := K_same H A _ _ _ _ (allL_roOf hok A) e3
      exact this
    | fld n off => cases hc
    | elt n off r i => cases hc
    | ref n => exact h.elim
    | own e => exact h.elim
    | lit => exact h.elim
    | pair _ _ => exact h.elim
    | hole _ _ _ => cases hc
end Go.Proofs.YtlffjoabajdfnaaGreat.Eng
/- How a call begins. No condition. -/
set_option linter.unusedSectionVars false
set_option linter.unusedVariables false
namespace Go.Proofs.YtlffjoabajdfnaaGreat.Eng
variable [Tys] [Rb] [Cx]
variable {C : Wd} {w : World} {p : List (Nat × Nat) → Bool}
def noSto : Nat → Slot := fun _ => .fresh
def ctx0 (w : World) : Wd := ctx noSto w (fun _ => undef) (fun _ => noBlk)
theorem allL_says : ∀ {o : Ow} {n : Nat}, o.allL p = true → ¬ o.says n
  | .pair x y, n, h, hs => by
    simp only [Ow.allL, Bool.and_eq_true] at h
    exact hs.elim (allL_says h.1) (allL_says h.2)
  | .own e, n, h, hs => allL_says (o := e) h hs
  | .lit, _, _, hs => hs
  | .ro _, _, _, hs => hs
  | .ref _, _, h, _ => by cases h
  | .fld _ _, _, h, _ => by cases h
  | .elt _ _ _ _, _, h, _ => by cases h
  | .hole _ _ _, _, h, _ => by cases h
theorem allL_par : ∀ {o : Ow}, o.allL parOnly = true → ∀ l ∈ o.lns, PAR ≤ l.1
  | .pair x y, h, l, hl => by
    simp only [Ow.allL, Bool.and_eq_true] at h
    exact (List.mem_append.1 hl).elim (allL_par h.1 l) (allL_par h.2 l)
  | .own e, h, l, hl => allL_par (o := e) h l hl
  | .ro ls, h, l, hl => Nat.le_of_ble_eq_true (List.all_eq_true.1 h l hl)
  | .lit, _, _, hl => by cases hl
  | .ref _, _, _, hl => by cases hl
  | .fld _ _, _, _, hl => by cases hl
  | .elt _ _ _ _, _, _, hl => by cases hl
  | .hole _ _ _, h, _, _ => by cases h
theorem getTc_KTs : ∀ (t : Ty) (ow : Ow) (v : D t) (j : Nat) (kv : KV) (vs : List Value) (S : Blk), getTc t ow v j = some kv → KTs C t ow v vs S → ∃ y S', vs[j]? = some y ∧ KT0 C kv.t kv.o kv.v y S' ∧ (∀ k, S' k → S k) ∧ (∀ n, kv.o.says n → ow.says n) ∧ ∀ l ∈ kv.o.lns, l ∈ ow.lns := by
  intro t
  induction t with
  | tc A B ihA ihB =>
    intro ow v j kv vs S h hk
    obtain ⟨y, ys, S1, S2, rfl, h1, h2, h3, h4, h5⟩ := hk
    cases j with
    | zero => obtain rfl := Option.some.inj h; exact ⟨y, S1, rfl, h1, h3, fun n => Ow.says_fst, fun l => Ow.lns_fst⟩
    | succ j =>
      obtain ⟨y', S', e1, e2, e3, e4, e5⟩ := ihB _ _ _ _ _ _ h h2
      exact ⟨y', S', by simpa using e1, e2, fun k hk => h4 k (e3 k hk), fun n hn => Ow.says_snd (e4 n hn), fun l hl => Ow.lns_snd (e5 l hl)⟩
  | _ => intro ow v j kv vs S h hk; cases j <;> cases h
theorem findKV_mem : ∀ {l : List (Nat × KV)} {n : Nat} {kv : KV}, findKV n l = some kv → (n, kv) ∈ l
  | x :: l, n, kv, h => by
    simp only [findKV] at h
    cases e : Nat.beq x.1 n with
    | true =>
      rw [e] at h
      obtain rfl := Option.some.inj h
      have := Nat.eq_of_beq_eq_true e
      subst this
      exact List.mem_cons_self
    | false => rw [e] at h; exact List.mem_cons_of_mem _ (findKV_mem h)
theorem findKV_of : ∀ {l : List (Nat × KV)} {n : Nat}, (∃ x ∈ l, x.1 = n) → ∃ kv, findKV n l = some kv
  | x :: l, n, ⟨y, hy, e⟩ => by
    simp only [findKV]
    cases eb : Nat.beq x.1 n with
    | true => exact ⟨_, rfl⟩
    | false =>
      rcases List.mem_cons.1 hy with rfl | hy
      · subst e; rw [Nat.beq_refl] at eb; cases eb
      · exact findKV_of ⟨y, hy, e⟩
theorem entry_inv {args : List KV} {vs : List Value} {S : Blk} {tmps : Array Value} {ps : List Nat} (hk : KTs (ctx0 w) (packA args).t (packA args).o (packA args).v vs S) (ho : (packA args).o.allL parOnly = true)
    (hS : ∀ b, S b → b < w.heap.size ∧ ∀ l, ¬ Rb.RB l b) (hn : Nat.ble (entryX args).2.2.2 PAR = true) (ht : ∀ j y, vs[j]? = some y → tmps.getD j undef = y) :
    InvE ⟨w, S, ps, fun p => tmps.getD p undef⟩ (entry args) ⟨tmps, []⟩ w := by
  obtain ⟨μ, own, N⟩ := unf_KTs _ _ _ 0 _ _ _ hk (fun m _ _ => allL_says ho)
  have hl := unfV_lns (packA args).t (packA args).v (packA args).o 0
  have hpar := allL_par ho
  have hst : ∀ n kv p q, (entry args).sto n = .live kv p q → (n, kv) ∈ (entryX args).2.2.1 := fun n kv p q h => by
    simp only [entry] at h
    split at h
    · rename_i kv' hf
      cases h
      exact findKV_mem hf
    · cases h
  have hsay : ∀ m, (∃ x ∈ (entryX args).2.2.1, x.1 = m) → (entry args).sto m ≠ .fresh := fun m hm => by
    obtain ⟨kv, hf⟩ := findKV_of hm
    simp only [entry, hf]
    simp
  have keep : ∀ {S' : Blk} {M : Nat → Prop} {L : Nat × Nat → Prop}, (∀ l, L l → PAR ≤ l.1) → Keeps ((ctx0 w).mu μ) (ctx (entry args).sto w μ own) S' M L := fun {S' M L} hL => by
    refine ⟨fun _ _ => rfl, fun ls h _ => ?_, fun ls b h _ hro => ⟨⟨hro.1, fun n kv p q hn hb => ?_, hro.2.2⟩, rfl⟩, fun _ _ => rfl⟩
    · exact List.all_eq_true.2 fun x hx => by unfold okLoan; rw [Nat.ble_eq_true_of_le (hL x (h x hx))]; rfl
    · obtain ⟨l, _, hR⟩ := hro.2.2 fun l hl => hL l (h l hl)
      exact absurd hR ((hS b (N.sub n b hb)).2 _)
  have hmem : ∀ n kv p q, (entry args).sto n = .live kv p q → p = 0 ∧ q = 0 := fun n kv p q h => by
    simp only [entry] at h
    split at h
    · cases h; exact ⟨rfl, rfl⟩
    · cases h
  have henv : ∀ t kv, (entry args).env t = some kv → ∃ y S', vs[t]? = some y ∧ KT0 ((ctx0 w).mu μ) kv.t kv.o kv.v y S' ∧ (∀ k, S' k → noBlk k) ∧ (∀ n, kv.o.says n → (entryX args).2.1.says n) ∧ ∀ l ∈ kv.o.lns, l ∈ (entryX args).2.1.lns :=
    fun t kv h => getTc_KTs _ _ _ _ _ _ _ h N.here
  have saysX : ∀ m, (entryX args).2.1.says m → (entry args).sto m ≠ .fresh := fun m hm => by
    rcases N.says m hm with h | h
    · exact absurd h (allL_says ho)
    · exact hsay m h
  refine ⟨μ, own, ⟨fun t kv h => ?_, ⟨fun n kv p q h => ?_, fun n m ⟨kv1, p1, q1, h1⟩ ⟨kv2, p2, q2, h2⟩ hne => ?_⟩, fun n h => ?_, fun t kv h n hs => ?_, fun n kv p q h m hs => ?_, fun t kv h l hl' => ?_, fun n kv p q h l hl' => ?_, fun n kv p q h b hb => ?_,
    rfl, rfl, rfl, Nat.le_refl _, fun b _ _ => rfl, rfl, fun p _ => rfl⟩⟩
  · obtain ⟨y, S', e1, e2, e3, e4, e5⟩ := henv t kv h
    have hS' : S' = noBlk := funext fun k => propext ⟨e3 k, fun h => h.elim⟩
    subst hS'
    show KT _ _ _ _ (tmps.getD t undef) _
    rw [ht t y e1]
    exact KT_keep _ _ _ _ _ (keep fun l hl' => hpar l (hl.1 l (e5 l hl'))) ((KT_one (KT0_one e2)).2 e2)
  · have hm := hst n kv p q h
    exact K_keep _ _ _ _ _ (keep fun l hl' => hpar l (hl.2 _ hm l hl')) (N.K _ hm).1
  · have r1 := N.range _ (hst _ _ _ _ h1)
    have r2 := N.range _ (hst _ _ _ _ h2)
    exact N.disj n m r1.1 r1.2 r2.1 r2.2 hne
  · cases e : (entry args).sto n with
    | fresh => rfl
    | gone => simp only [entry] at e; split at e <;> cases e
    | live kv p q =>
      have r := (N.range _ (hst _ _ _ _ e)).2
      have hn := Nat.le_of_ble_eq_true hn
      unfold entryX at hn
      dsimp only at r
      omega
  · obtain ⟨y, S', e1, e2, e3, e4, e5⟩ := henv t kv h
    exact saysX n (e4 n hs)
  · rcases (N.K _ (hst n kv p q h)).2 m hs with h | h
    · exact absurd h (allL_says ho)
    · exact hsay m h
  · obtain ⟨y, S', e1, e2, e3, e4, e5⟩ := henv t kv h
    exact .inl (hpar l (hl.1 l (e5 l hl')))
  · exact .inl (hpar l (hl.2 _ (hst n kv p q h) l hl'))
  · have := N.sub n b hb
    exact ⟨(hS b this).1, .inl this⟩
end Go.Proofs.YtlffjoabajdfnaaGreat.Eng
/- What a function gives back. No condition. -/
set_option linter.unusedSectionVars false
set_option linter.unusedVariables false
namespace Go.Proofs.YtlffjoabajdfnaaGreat.Eng
variable [Tys] [Rb] [Cx]
variable {F : Fr} {σ : St} {a : Act} {w : World} {μ : Nat → Value} {own : Nat → Blk}
theorem lends0 {s : Nat → Slot} : Lends (ctx s w μ own) (ctx0 w) parOnly id := by
  refine ⟨rfl, fun ls h => ?_, fun ls b h hro => ⟨hro.1, fun n kv p q hn => (by cases (show Slot.fresh = .live kv p q from hn)), hro.2.2⟩⟩
  exact List.all_eq_true.2 fun x hx => by unfold okLoan; rw [List.all_eq_true.1 h x hx]; rfl
theorem ioOf_K (I : Inv F σ a w μ own) : ∀ (ms : List Mode) (p : Nat) (kv : KV), ioOf σ.env ms p = some kv → KTs (ctx σ.sto w μ own) kv.t kv.o kv.v ((iosAt ms p).map fun q => a.tmps.getD q undef) noBlk
  | [], p, kv, h => by
    obtain rfl := Option.some.inj h
    rfl
  | .io :: ms, p, kv, h => by
    simp only [ioOf] at h
    split at h
    · rename_i x r hx hr
      cases h1 : x.t.one with
      | false => rw [h1] at h; cases h
      | true =>
        rw [h1] at h
        obtain rfl := Option.some.inj h
        have h3 := ioOf_K I ms (p + 1) r hr
        have hk := (KT_one h1).1 (I.env p x hx)
        exact ⟨a.tmps.getD p undef, _, noBlk, noBlk, rfl, by rw [Ow.fst_mk]; exact hk, by rw [Ow.snd_mk]; exact h3, fun _ h => h, fun _ h => h, fun _ h => h.elim⟩
    · cases h
  | .bor :: ms, p, kv, h => ioOf_K I ms (p + 1) kv h
  | .own :: ms, p, kv, h => ioOf_K I ms (p + 1) kv h
variable {C : Wd} {s : Nat → Slot}
theorem foldV_KT0 (t : Ty) (v : D t) (o : Ow) (y : D t × Ow × (Nat → Slot) × List Nat) (x : Value) (S : Blk) (h : foldV t v o s = some y) (hk : KT0 C t o v x S) (he : Ents C s own)
    (hd : ∀ n, (s n).lives → ∀ b, own n b → ¬ S b) : Folded C s own S y.2.2.1 y.2.2.2 (fun S' => KT0 C t y.2.1 y.1 x S') := by
  cases t <;> simp only [KT0] at hk ⊢
  case st i r =>
    obtain ⟨cs, e, hk⟩ := hk
    obtain ⟨l, k⟩ := foldV_K _ _ _ _ _ _ _ h hk he hd
    exact ⟨l, cs, e, k⟩
  all_goals exact foldV_K _ _ _ _ _ _ _ h hk he hd
theorem foldV_KTs : ∀ (t : Ty) (v : D t) (o : Ow) (s : Nat → Slot) (y : D t × Ow × (Nat → Slot) × List Nat) (vs : List Value) (S : Blk),
    foldV t v o s = some y → KTs C t o v vs S → Ents C s own → (∀ n, (s n).lives → ∀ b, own n b → ¬ S b) →
    Folded C s own S y.2.2.1 y.2.2.2 (fun S' => KTs C t y.2.1 y.1 vs S')
  | .unit, v, o, s, y, vs, S, h, hk, _, _ => by
    simp only [foldV] at h
    obtain rfl := Option.some.inj h
    exact folded_none (fun _ _ _ h => h) hk
  | .tc a b, v, o, s, y, vs, S, h, hk, he, hd => by
    obtain ⟨u, us, S1, S2, rfl, h1, h2, h3, h4, h5⟩ := hk
    simp only [foldV] at h
    cases ha : foldV a v.1 o.fst s with
    | none => simp [ha] at h
    | some x =>
      obtain ⟨x, p, s1, G1⟩ := x
      simp only [ha] at h
      cases hb : foldV b v.2 o.snd s1 with
      | none => simp [hb] at h
      | some z =>
        obtain ⟨z, q, s2, G2⟩ := z
        simp only [hb] at h
        obtain rfl := Option.some.inj h
        obtain ⟨l1, k1⟩ := foldV_KT0 a _ _ _ _ _ ha h1 he (fun n hn b hb hs => hd n hn b hb (h3 b hs))
        have he1 := he.less l1
        obtain ⟨l2, k2⟩ := foldV_KTs b _ _ _ _ _ _ hb h2 he1 (fun n hn b hb hs => hd n (by obtain ⟨kv, p, q, e⟩ := hn; exact ⟨kv, p, q, (l1.live e).1⟩) b hb (h4 b hs))
        have live2 : ∀ n, n ∈ G2 → (s n).lives ∧ ¬ n ∈ G1 := fun n hn => by
          obtain ⟨⟨kv, p, q, e⟩, _⟩ := l2.gone n hn
          exact ⟨⟨kv, p, q, (l1.live e).1⟩, (l1.live e).2⟩
        refine ⟨(l1.trans l2).imp fun n => by simp, ?_⟩
        refine ⟨u, us, _, _, rfl, by rw [Ow.fst_mk]; exact k1, by rw [Ow.snd_mk]; exact k2, ?_, ?_, ?_⟩
        · rintro k (hk | ⟨n, hn, hk⟩)
          · exact .inl (h3 k hk)
          · exact .inr ⟨n, List.mem_append_left _ hn, hk⟩
        · rintro k (hk | ⟨n, hn, hk⟩)
          · exact .inl (h4 k hk)
          · exact .inr ⟨n, List.mem_append_right _ hn, hk⟩
        · rintro k (hk | ⟨n, hn, hk⟩) (hk' | ⟨m, hm, hk'⟩)
          · exact h5 k hk hk'
          · exact hd m (live2 m hm).1 k hk' (h3 k hk)
          · exact hd n (l1.gone n hn).1 k hk (h4 k hk')
          · exact he.disj n m (l1.gone n hn).1 (live2 m hm).1 (fun e => (live2 m hm).2 (e ▸ hn)) k hk hk'
theorem foldV_KT (t : Ty) (v : D t) (o : Ow) (y : D t × Ow × (Nat → Slot) × List Nat) (x : Value) (S : Blk) (h : foldV t v o s = some y) (hk : KT C t o v x S) (he : Ents C s own)
    (hd : ∀ n, (s n).lives → ∀ b, own n b → ¬ S b) : Folded C s own S y.2.2.1 y.2.2.2 (fun S' => KT C t y.2.1 y.1 x S') := by
  cases t <;> simp only [KT] at hk ⊢
  case unit =>
    simp only [foldV] at h
    obtain rfl := Option.some.inj h
    exact folded_none (fun _ _ _ h => h) hk
  case tc a b =>
    obtain ⟨vs, e, hk⟩ := hk
    obtain ⟨l, k⟩ := foldV_KTs _ _ _ _ _ _ _ h hk he hd
    exact ⟨l, vs, e, k⟩
  all_goals exact foldV_KT0 _ _ _ _ _ _ h hk he hd
theorem K_same0 {p : List (Nat × Nat) → Bool} {c c' : Wd} (H : Lends c c' p id) {t : Ty} {o : Ow} {v : D t} {x : Value} {S : Blk} (ho : o.allL p = true) (h : KT0 c t o v x S) : KT0 c' t o v x S := by
  cases t <;> simp only [KT0] at h ⊢
  case st i r => obtain ⟨cs, e, h⟩ := h; exact ⟨cs, e, K_same H _ _ _ _ _ ho h⟩
  all_goals exact K_same H _ _ _ _ _ ho h
theorem KTs_same {p : List (Nat × Nat) → Bool} {c c' : Wd} (H : Lends c c' p id) : ∀ (t : Ty) (o : Ow) (v : D t) (vs : List Value) (S : Blk), o.allL p = true → KTs c t o v vs S → KTs c' t o v vs S
  | .unit, _, _, _, _, _, h => h
  | .tc a b, o, v, vs, S, ho, h => by
    obtain ⟨y, ys, S1, S2, e, h1, h2, h3, h4, h5⟩ := h
    exact ⟨y, ys, S1, S2, e, K_same0 H (allL_fst ho) h1, KTs_same H b _ _ _ _ (allL_snd ho) h2, h3, h4, h5⟩
theorem KT_same {p : List (Nat × Nat) → Bool} {c c' : Wd} (H : Lends c c' p id) {t : Ty} {o : Ow} {v : D t} {x : Value} {S : Blk} (ho : o.allL p = true) (h : KT c t o v x S) : KT c' t o v x S := by
  cases t <;> simp only [KT] at h ⊢
  case unit => exact h
  case tc a b => obtain ⟨vs, e, h⟩ := h; exact ⟨vs, e, KTs_same H _ _ _ _ _ ho h⟩
  all_goals exact K_same0 H ho h
def Back (F : Fr) : BackT
  | .pair t ts, ro, r, v, w => ∃ S1 S2, KT (ctx0 w) t ro.fst r.1 v S1 ∧ KTs (ctx0 w) ts ro.snd r.2 (F.ps.map F.hd) S2 ∧ (∀ b, S1 b → ¬ S2 b) ∧ (∀ b, S1 b ∨ S2 b → b < w.heap.size ∧ (F.A0 b ∨ F.w0.heap.size ≤ b)) ∧
    w.os = F.w0.os ∧ w.tape = F.w0.tape ∧ w.output = F.w0.output ∧ F.w0.heap.size ≤ w.heap.size ∧ ∀ b, b < F.w0.heap.size → ¬ F.A0 b → w.heap[b]? = F.w0.heap[b]?
  | _, _, _, _, _ => False
def one? : List Value → Value
  | [v] => v
  | vs => .tuple vs.toArray
theorem one?_eq (vs : Array Value) : (if h : vs.size = 1 then vs[0] else .tuple vs) = one? vs.toList := by
  obtain ⟨l⟩ := vs
  match l with
  | [] => rfl
  | [v] => rfl
  | _ :: _ :: _ => rfl
theorem KT0_sub {t : Ty} {o : Ow} {v : D t} {x : Value} {S S' : Blk} (hS : ∀ k, S k → S' k) (h : KT0 C t o v x S) : KT0 C t o v x S' := by
  cases t <;> simp only [KT0] at h ⊢
  case st i r => obtain ⟨cs, e, h⟩ := h; exact ⟨cs, e, K_sub _ _ _ _ _ _ hS h⟩
  all_goals exact K_sub _ _ _ _ _ _ hS h
theorem KT_none {C : Wd} {t : Ty} {o : Ow} {v : D t} {x : Value} {S : Blk} (h : KT C t o v x noBlk) : KT C t o v x S := by
  cases t <;> simp only [KT] at h ⊢
  case unit => exact h
  case tc A B =>
    obtain ⟨vs, e, h⟩ := h
    obtain ⟨y, ys, S1, S2, e2, h1, h2, h3, h4, h5⟩ := h
    exact ⟨vs, e, y, ys, S1, S2, e2, h1, h2, fun k hk => (h3 k hk).elim, fun k hk => (h4 k hk).elim, h5⟩
  all_goals exact KT0_sub (fun _ h => h.elim) h
def rdR (tmps : Array Value) : ResultVar → Sem Value
  | .tmp t => pure (tmps.getD t undef)
  | .cell a t => do loadVar t (← asAddr (tmps.getD a undef))
theorem run_results {tmps : Array Value} {vs : List Value} {fn : Func} (h : (List.mapM (rdR tmps) fn.results.toList).run Cx.P w = .ok vs w) : (results fn tmps).run Cx.P w = .ok (one? vs) w := by
  have e : fn.results = fn.results.toList.toArray := by simp
  unfold results
  rw [e]
  simp only [List.mapM_toArray, Sem.run_bind, map_eq_pure_bind, Result.andThen_ok, Sem.run_pure, Sem.run_map]
  erw [h]
  simp only [Result.andThen_ok, one?_eq]
theorem cellOf_K (G : Good) (I : Inv F σ a w μ own) {s : Nat → Slot} (hs : ∀ n kv p q, s n = .live kv p q → σ.sto n = .live kv p q) {p t : Nat} {x : KV × Nat} (h : cellOf σ.env s p t = some x) :
    ∃ v, (rdR a.tmps (.cell p t)).run Cx.P w = .ok v w ∧ KT0 (ctx σ.sto w μ own) x.1.t x.1.o x.1.v v (own x.2) ∧ (s x.2).lives := by
  unfold cellOf at h
  split at h
  · rename_i c v0 n ty he ht
    cases hc : cellAt s n c ty with
    | none => rw [hc] at h; cases h
    | some kv =>
      rw [hc] at h
      obtain rfl := Option.some.inj h
      unfold cellAt at hc
      split at hc
      · rename_i kv' p' q' hn
        split at hc
        · rename_i e v ho hv
          split at hc
          · rename_i hty
            obtain rfl := Option.some.inj hc
            subst hty
            obtain ⟨e1, rfl⟩ := cast?_eq hv
            obtain ⟨kt, kv0, ko⟩ := kv'
            dsimp only at e1 ho
            subst e1
            subst ho
            have hT := tyOf_TD G ht
            obtain ⟨b, S', hcs, hb, ⟨X, te, hX, hK⟩, hS'⟩ := I.ents.K n _ p' q' (hs _ _ _ _ hn)
            have hx : a.tmps.getD p undef = μ n := List.singleton_inj.1 (I.env p _ he).1
            have hμ : μ n = .pointer (some ⟨b, 0, none⟩) := List.singleton_inj.1 hcs
            have hat : At w ⟨b, 0, none⟩ 0 X.toList := At.cells (off := 0) (hX : w.heap[b]? = some (.cells X te (0, 0)))
            refine ⟨repV c X.toList, ?_, KT0_sub (fun k hk => (hS' k hk).1) (KT0_rep hT.one hK), ⟨_, _, _, hn⟩⟩
            have hl := K_len _ _ _ _ _ hK
            have := run_loadVar hT hl hat
            simp only [rdR, hx, hμ, asAddr, Sem.run_bind, Sem.run_pure, Result.andThen_ok, this]
          · cases hc
        · cases hc
      · cases hc
  · cases h
theorem resOf_K (G : Good) (I : Inv F σ a w μ own) : ∀ (rs : List ResultVar) (s : Nat → Slot) (r : KV × (Nat → Slot)), (∀ n kv p q, s n = .live kv p q → σ.sto n = .live kv p q) → resOf σ.env rs s = some r →
    ∃ (vs : List Value) (Gp : Nat → Prop), (List.mapM (rdR a.tmps) rs).run Cx.P w = .ok vs w ∧ vs.length = rs.length ∧ Less s r.2 Gp ∧ KTs (ctx σ.sto w μ own) r.1.t r.1.o r.1.v vs (fun b => ∃ n, Gp n ∧ own n b)
  | [], s, r, hs, h => by
    obtain rfl := Option.some.inj h
    exact ⟨[], fun _ => False, rfl, rfl, Less.refl s, rfl⟩
  | .tmp t :: rs, s, r, hs, h => by
    simp only [resOf] at h
    split at h
    · rename_i x r' hx hr
      cases h1 : x.t.one with
      | false => rw [h1] at h; cases h
      | true =>
        rw [h1] at h
        obtain rfl := Option.some.inj h
        obtain ⟨vs, Gp, e1, e2, e3, e4⟩ := resOf_K G I rs s r' hs hr
        have hk := (KT_one h1).1 (I.env t x hx)
        refine ⟨a.tmps.getD t undef :: vs, Gp, ?_, by simp [e2], e3, _, vs, noBlk, (fun b => ∃ n, Gp n ∧ own n b), rfl, by rw [Ow.fst_mk]; exact hk, by rw [Ow.snd_mk]; exact e4, fun _ h => h.elim, fun _ h => h, fun _ h => h.elim⟩
        simp only [List.mapM_cons, Sem.run_bind, rdR, Sem.run_pure, Result.andThen_ok]
        erw [e1]
        rfl
    · cases h
  | .cell p t :: rs, s, r, hs, h => by
    simp only [resOf] at h
    split at h
    · rename_i x hx
      split at h
      · rename_i r' hr
        obtain rfl := Option.some.inj h
        obtain ⟨v, c1, c2, c3⟩ := cellOf_K G I hs hx
        have l0 : Less s (slotSet s x.2 .gone) (fun m => m = x.2) := Less.one c3
        obtain ⟨vs, Gp, e1, e2, e3, e4⟩ := resOf_K G I rs _ r' (fun n kv p q h => hs _ _ _ _ (l0.live h).1) hr
        refine ⟨v :: vs, fun n => n = x.2 ∨ Gp n, ?_, by simp [e2], l0.trans e3, v, vs, own x.2, (fun b => ∃ n, Gp n ∧ own n b), rfl, by rw [Ow.fst_mk]; exact c2, by rw [Ow.snd_mk]; exact e4, fun k hk => ⟨_, .inl rfl, hk⟩, fun k ⟨n, hn, hk⟩ => ⟨n, .inr hn, hk⟩, ?_⟩
        · simp only [List.mapM_cons, Sem.run_bind, c1, Result.andThen_ok]
          erw [e1]
          rfl
        · rintro k hk ⟨n, hn, hk'⟩
          obtain ⟨⟨kv, p, q, e⟩, _⟩ := e3.gone n hn
          obtain ⟨kv2, p2, q2, e5⟩ := c3
          exact I.ents.disj n x.2 ⟨_, _, _, hs _ _ _ _ (l0.live e).1⟩ ⟨_, _, _, hs _ _ _ _ e5⟩ (l0.live e).2 k hk' hk
      · cases h
    · cases h
theorem resKV_KT (G : Good) {fn : Func} (I : Inv F σ a w μ own) {r : KV × (Nat → Slot)} (h : resKV σ.env σ.sto fn.results.toList = some r) :
    ∃ v Gp, (results fn a.tmps).run Cx.P w = .ok v w ∧ Less σ.sto r.2 Gp ∧ KT (ctx σ.sto w μ own) r.1.t r.1.o r.1.v v (fun b => ∃ n, Gp n ∧ own n b) := by
  unfold resKV at h
  split at h
  · rename_i t hr
    cases he : σ.env t with
    | none => rw [he] at h; cases h
    | some kv =>
      rw [he] at h
      obtain rfl := Option.some.inj h
      have hrun : (List.mapM (rdR a.tmps) fn.results.toList).run Cx.P w = .ok [a.tmps.getD t undef] w := by
        rw [hr]
        simp only [List.mapM_cons, List.mapM_nil, Sem.run_bind, rdR, Sem.run_pure, Result.andThen_ok]
      refine ⟨_, fun _ => False, run_results hrun, Less.refl _, ?_⟩
      have hk := I.env t kv he
      exact KT_none hk
  · rename_i p t hr
    cases hc : cellOf σ.env σ.sto p t with
    | none => rw [hc] at h; cases h
    | some x =>
      rw [hc] at h
      obtain rfl := Option.some.inj h
      obtain ⟨v, c1, c2, c3⟩ := cellOf_K G I (fun _ _ _ _ h => h) hc
      have hrun : (List.mapM (rdR a.tmps) fn.results.toList).run Cx.P w = .ok [v] w := by
        rw [hr]
        simp only [List.mapM_cons, List.mapM_nil, Sem.run_bind, c1, Sem.run_pure, Result.andThen_ok]
      exact ⟨v, fun m => m = x.2, run_results hrun, Less.one c3, (KT_one (KT0_one c2)).2 (KT0_sub (fun k hk => ⟨_, rfl, hk⟩) c2)⟩
  · rename_i hne1 hne2
    obtain ⟨vs, Gp, e1, e2, e3, hk⟩ := resOf_K G I _ _ _ (fun _ _ _ _ h => h) h
    refine ⟨_, Gp, run_results e1, e3, ?_⟩
    obtain ⟨⟨t, v, o⟩, s'⟩ := r
    dsimp only at hk ⊢
    match vs, e2 with
    | [], e2 =>
      cases t <;> first | exact rfl | (obtain ⟨_, _, _, _, h, _⟩ := hk; cases h) | exact hk.elim
    | [t1], e2 =>
      exfalso
      match hr : fn.results.toList, e2 with
      | [.tmp t], _ => exact hne1 t hr
      | [.cell p t], _ => exact hne2 p t hr
    | t1 :: t2 :: ts, e2 =>
      cases t <;> first | exact ⟨_, rfl, hk⟩ | exact hk.elim | cases hk
theorem ret_back (G : Good) {fn : Func} {modes : List Mode} {rt : Ty} {ro : Ow} {r : D rt} (hps : F.ps = iosAt modes 0) (I : InvE F σ a w) (h : retOf fn modes σ rt ro = some r) :
    ∃ v, (results fn a.tmps).run Cx.P w = .ok v w ∧ Back F rt ro r v w := by
  obtain ⟨μ, own, I⟩ := I
  unfold retOf at h
  split at h
  · rename_i x io hx hio
    obtain ⟨v, Gp, hv, l0, hk⟩ := resKV_KT G I hx
    have hki := ioOf_K I _ _ _ hio
    have hh : ((iosAt modes 0).map fun q => a.tmps.getD q undef) = F.ps.map F.hd := by
      rw [← hps]
      exact List.map_congr_left fun p hp => I.heads p hp
    rw [hh] at hki
    split at h
    · rename_i x' s' g' hf
      split at h
      · rename_i io' g2 hf2
        obtain ⟨⟨xt, xv, xo⟩, s0⟩ := x
        obtain ⟨it, iv, io⟩ := io
        unfold KV.fold at hf hf2
        dsimp only at hf hf2 hk hki
        cases h1 : foldV xt xv xo s0 with
        | none => rw [h1] at hf; cases hf
        | some y =>
          rw [h1] at hf
          obtain ⟨rfl, rfl, rfl⟩ : (⟨xt, y.1, y.2.1⟩ : KV) = x' ∧ y.2.2.1 = s' ∧ y.2.2.2 = g' := by
            simp only [Option.map_some, Option.some.injEq, Prod.mk.injEq] at hf
            exact ⟨hf.1, congrArg Prod.fst hf.2, congrArg Prod.snd hf.2⟩
          cases h2 : foldV it iv io y.2.2.1 with
          | none => rw [h2] at hf2; cases hf2
          | some z =>
            rw [h2] at hf2
            obtain ⟨rfl, rfl⟩ : (⟨it, z.1, z.2.1⟩ : KV) = io' ∧ z.2.2 = g2 := by
              simp only [Option.map_some, Option.some.injEq, Prod.mk.injEq] at hf2
              exact hf2
            cases hb : ((Ow.mk y.2.1 z.2.1).beq ro && ro.allL parOnly) with
            | false => dsimp only at h; rw [hb] at h; cases h
            | true =>
              dsimp only at h
              rw [hb] at h
              simp only [cond_true] at h
              obtain ⟨e, rfl⟩ := cast?_eq h
              subst e
              simp only [Bool.and_eq_true] at hb
              obtain ⟨hb1, hb2⟩ := hb
              obtain rfl := Ow.beq_eq hb1
              rw [allL_mk] at hb2
              simp only [Bool.and_eq_true] at hb2
              obtain ⟨l1, k1⟩ := foldV_KT _ _ _ _ _ _ h1 hk (I.ents.less l0) (fun n ⟨kv, p, q, e⟩ b hb ⟨m, hm, hb'⟩ => I.ents.disj n m ⟨_, _, _, (l0.live e).1⟩ (l0.gone m hm).1 (fun e' => (l0.live e).2 (e' ▸ hm)) b hb hb')
              obtain ⟨l2, k2⟩ := foldV_KTs _ _ _ _ _ _ _ h2 hki ((I.ents.less l0).less l1) (fun _ _ _ _ h => h.elim)
              have b0 : ∀ n, Gp n ∨ n ∈ y.2.2.2 → (σ.sto n).lives := fun n hn => by
                rcases hn with hn | hn
                · exact (l0.gone n hn).1
                · obtain ⟨kv, p, q, e⟩ := (l1.gone n hn).1
                  exact ⟨_, _, _, (l0.live e).1⟩
              have b2 : ∀ n, n ∈ z.2.2.2 → (σ.sto n).lives ∧ ¬ (Gp n ∨ n ∈ y.2.2.2) := fun n hn => by
                obtain ⟨kv, p, q, e⟩ := (l2.gone n hn).1
                have e1 := l1.live e
                have e2 := l0.live e1.1
                exact ⟨⟨kv, p, q, e2.1⟩, fun h => h.elim e2.2 e1.2⟩
              have bd : ∀ n, (σ.sto n).lives → ∀ b, own n b → b < w.heap.size ∧ (F.A0 b ∨ F.w0.heap.size ≤ b) := fun n ⟨kv, p, q, e⟩ b hb => I.bound n kv p q e b hb
              refine ⟨v, hv, fun b => (∃ n, Gp n ∧ own n b) ∨ ∃ n, n ∈ y.2.2.2 ∧ own n b, fun b => noBlk b ∨ ∃ n, n ∈ z.2.2.2 ∧ own n b, ?_, ?_, ?_, ?_, I.os, I.tape, I.output, I.size, I.frame⟩
              · rw [Ow.fst_mk]; exact KT_same lends0 hb2.1 k1
              · rw [Ow.snd_mk]; exact KTs_same lends0 _ _ _ _ _ hb2.2 k2
              · rintro b h1 (h' | ⟨m, hm, hb'⟩)
                · exact h'
                · obtain ⟨n, hn, hb⟩ : ∃ n, (Gp n ∨ n ∈ y.2.2.2) ∧ own n b := h1.elim (fun ⟨n, hn, hb⟩ => ⟨n, .inl hn, hb⟩) (fun ⟨n, hn, hb⟩ => ⟨n, .inr hn, hb⟩)
                  exact I.ents.disj n m (b0 n hn) (b2 m hm).1 (fun e => (b2 m hm).2 (e ▸ hn)) b hb hb'
              · rintro b ((⟨n, hn, hb⟩ | ⟨n, hn, hb⟩) | (h | ⟨n, hn, hb⟩))
                · exact bd n (b0 n (.inl hn)) b hb
                · exact bd n (b0 n (.inr hn)) b hb
                · exact h.elim
                · exact bd n (b2 n hn).1 b hb
      · cases h
    · cases h
  · cases h
end Go.Proofs.YtlffjoabajdfnaaGreat.Eng
/- What is handed to a call. No condition. -/
set_option linter.unusedSectionVars false
set_option linter.unusedVariables false
namespace Go.Proofs.YtlffjoabajdfnaaGreat.Eng
variable [Tys] [Rb] [Cx]
variable {F : Fr} {σ : St} {a : Act} {w : World} {μ : Nat → Value} {own : Nat → Blk} {s : Nat → Slot} {C C' : Wd}
def Under (s s0 : Nat → Slot) : Prop := ∀ n kv p q, s n = .live kv p q → s0 n = .live kv p q
theorem okLoan_under {s0 : Nat → Slot} (h : Under s s0) {l : Nat × Nat} (hl : okLoan s l = true) : okLoan s0 l = true := by
  unfold okLoan at hl ⊢
  cases hp : Nat.ble PAR l.1 with
  | true => rfl
  | false =>
    rw [hp] at hl
    simp only [Bool.false_or] at hl ⊢
    cases e : s l.1 with
    | fresh => rw [e] at hl; cases hl
    | gone => rw [e] at hl; cases hl
    | live kv p q => rw [h _ _ _ _ e]; rw [e] at hl; exact hl
theorem okLoans_under {s0 : Nat → Slot} (h : Under s s0) {ls : List (Nat × Nat)} (hl : okLoans s ls = true) : okLoans s0 ls = true := by
  simp only [okLoans, List.all_eq_true] at hl ⊢
  exact fun x hx => okLoan_under h (hl x hx)
theorem loansN_live {n : Nat} {kv : KV} {p q : Nat} (h : s n = .live kv p q) : loansN n (s n) = whole n p :: kv.o.lns := by rw [h]; rfl
theorem lns_loansO : ∀ {o : Ow}, ∀ x ∈ o.lns, x ∈ loansO s o
  | .pair a b, x, h => by
    simp only [loansO, List.mem_append]
    exact (List.mem_append.1 h).imp (lns_loansO x) (lns_loansO x)
  | .own e, x, h => lns_loansO (o := e) x h
  | .ro ls, x, h => h
  | .lit, x, h => by cases h
  | .ref _, x, h => by cases h
  | .fld _ _, x, h => by cases h
  | .elt _ _ _ _, x, h => by cases h
  | .hole a _ b, x, h => by
    simp only [loansO, List.mem_append]
    exact (List.mem_append.1 h).imp (lns_loansO x) (lns_loansO x)
theorem says_loansO {n : Nat} {kv : KV} {p q : Nat} (hn : s n = .live kv p q) : ∀ {o : Ow}, o.says n → ∀ x ∈ whole n p :: kv.o.lns, x ∈ loansO s o
  | .pair a b, h, x, hx => by
    simp only [loansO, List.mem_append]
    exact h.imp (fun h => says_loansO hn h x hx) (fun h => says_loansO hn h x hx)
  | .own e, h, x, hx => says_loansO hn (o := e) h x hx
  | .ref m, h, x, hx => by obtain rfl : m = n := h; rw [← loansN_live hn] at hx; exact hx
  | .fld m _, h, x, hx => by obtain rfl : m = n := h; rw [← loansN_live hn] at hx; exact hx
  | .elt m _ _ _, h, x, hx => by obtain rfl : m = n := h; rw [← loansN_live hn] at hx; exact hx
  | .hole a _ b, h, x, hx => by
    simp only [loansO, List.mem_append]
    exact Or.imp (fun h => says_loansO hn h x hx) (fun h => says_loansO hn h x hx) h
structure Lent (C C' : Wd) (l r : List (Nat × Nat)) : Prop where
  w : C'.w = C.w
  ro : ∀ b, C.RO l b → C'.RO r b
section
variable {l r : List (Nat × Nat)}
theorem cov_of (I : Inv F σ a w μ own) (hs : Under s σ.sto) (H : Lent (ctx σ.sto w μ own) C' l r) {S : Blk} {L : List (Nat × Nat)} (hL : ∀ x ∈ L, x ∈ l) (hS : ∀ b, S b → (ctx σ.sto w μ own).RO l b) : Cov s (ctx σ.sto w μ own) C' r L S :=
  ⟨H.w, fun l' h => okLoans_under hs h, fun b hb => H.ro b (hS b hb), fun l' b hl' _ h => H.ro b (ctx_mono l' l b (fun x hx => hL x (hl' x hx)) h)⟩
theorem refs_of (I : Inv F σ a w μ own) (hs : Under s σ.sto) (H : Lent (ctx σ.sto w μ own) C' l r) {o : Ow} (hl : ∀ x ∈ loansO s o, x ∈ l) : Refs s (ctx σ.sto w μ own) C' r o.says := by
  intro n kv p q hn he
  have hm := says_loansO he hn
  exact ⟨own n, I.ents.K n kv p q (hs _ _ _ _ he), cov_of I hs H (fun x hx => hl x (hm x (List.mem_cons_of_mem _ hx))) fun b hb => I.whole n kv p q (hs _ _ _ _ he) l b hb (hl _ (hm _ List.mem_cons_self))⟩
theorem KT0_of {t : Ty} {o : Ow} {v v' : D t} {o' : Ow} {x : Value} {S S' : Blk} (h1 : t.one = true) (h : KT0 C t o v x S) (k : K C t o v x.cells.toList S → K C' t o' v' x.cells.toList S') : KT0 C' t o' v' x S' := by
  obtain ⟨h2, h3⟩ := KT0_cells h
  rw [h3]
  exact KT0_rep h1 (k h2)
theorem view_K (I : Inv F σ a w μ own) (hs : Under s σ.sto) {x y : KV} {v : Value} (h1 : x.t.one = true) (hv : Val (ctx σ.sto w μ own) σ.sto x v) (h : x.view r s = some y)
    (H : Lent (ctx σ.sto w μ own) C' (x.loans s) r) : KT0 C' y.t y.o y.v v noBlk ∧ ∃ t : Ty, y.o = t.roOf r := by
  have hk := (KT_one h1).1 hv.kt
  unfold KV.view at h
  split at h
  · rename_i A v0 n
    have hl : KV.loans ⟨.bx A, v0, .ref n⟩ s = (match s n with
      | .live e ver _ => whole n ver :: loansO s e.o.elems
      | _ => []) := rfl
    split at h
    · rename_i e p q hn
      rw [hn] at hl
      dsimp only at hl
      split at h
      · rename_i o' x0 ho hx
        cases hvw : viewV r A x0 o' s with
        | none => rw [hvw] at h; cases h
        | some z =>
          rw [hvw] at h
          obtain rfl := Option.some.inj h
          obtain ⟨e1, rfl⟩ := cast?_eq hx
          have hent := I.ents.K n e p q (hs _ _ _ _ hn)
          obtain ⟨et, ev, eo⟩ := e
          dsimp only at e1 ho hent
          subst e1
          subst ho
          have hk' : [v] = [μ n] := hk.1
          obtain ⟨b, S', hcs, hb, ⟨X, te, hX, hK⟩, hS'⟩ := hent
          have hvb : v = .pointer (some ⟨b, 0, none⟩) := by
            have := hk'.trans hcs
            exact List.singleton_inj.1 this
          have hro : ∀ k, own n k → (ctx σ.sto w μ own).RO (KV.loans ⟨.bx A, v0, .ref n⟩ s) k := fun k hk => I.whole n _ p q (hs _ _ _ _ hn) _ k hk (by rw [hl]; exact List.mem_cons_self)
          have hsub : ∀ x ∈ loansO s o', x ∈ KV.loans ⟨.bx A, v0, .ref n⟩ s := fun x hx => by rw [hl]; exact List.mem_cons_of_mem _ hx
          have k2 := viewV_K A _ o' z X.toList S' hvw (cov_of I hs H (fun x hx => hsub x (lns_loansO x hx)) fun k hk => hro k (hS' k hk).1) (refs_of I hs H hsub) hK
          refine ⟨⟨v, rfl, by rw [hvb]; rfl, fun _ => ⟨⟨b, 0, none⟩, X.toList, hvb, H.ro b (hro b hb), k2, ?_⟩⟩, .sl .unit, rfl⟩
          rw [H.w]
          exact At.cells (off := 0) (hX : w.heap[b]? = some (.cells X te (0, 0)))
      · cases h
    · cases h
  · rename_i A v0 l'
    cases hb : (okLoans s l' && A.flat) with
    | false => rw [hb] at h; cases h
    | true =>
      rw [hb] at h
      simp only [cond_true, Option.some.injEq] at h
      subst h
      simp only [Bool.and_eq_true] at hb
      obtain ⟨y, h2, h3, h4⟩ := hk
      obtain ⟨ad, xs, e1, e2, e3, e4⟩ := h4 (okLoans_under hs hb.1)
      refine ⟨⟨y, h2, h3, fun _ => ⟨ad, xs, e1, H.ro _ e2, ?_, by rw [H.w]; exact e4⟩⟩, .sl .unit, rfl⟩
      exact viewK A _ _ _ _ hb.2 (Ty.anon_roOf hb.1 A) (cov_of I hs H (fun x hx => Ty.lns_roOf A hx) fun _ h => h.elim) e3
  · rename_i t v0 o hne1 hne2
    cases hvw : viewV r t v0 o s with
    | none => rw [hvw] at h; cases h
    | some z =>
      rw [hvw] at h
      obtain rfl := Option.some.inj h
      refine ⟨KT0_of h1 hk fun hk => ?_, t, rfl⟩
      have hl : KV.loans ⟨t, v0, o⟩ s = loansO s o := by
        unfold KV.loans
        split
        · rename_i heq
          cases heq
          exact (hne1 _ _ _ rfl HEq.rfl rfl).elim
        · rename_i heq
          cases heq
          rfl
      rw [hl] at H
      exact viewV_K t v0 o z _ _ hvw (cov_of I hs H (fun x hx => lns_loansO x hx) fun _ h => h.elim) (refs_of I hs H fun x hx => hx) hk
end
end Go.Proofs.YtlffjoabajdfnaaGreat.Eng
/- The arguments of a call. No condition. -/
set_option linter.unusedSectionVars false
set_option linter.unusedVariables false
namespace Go.Proofs.YtlffjoabajdfnaaGreat.Eng
variable [Tys] [Rb] [Cx]
variable {F : Fr} {σ : St} {a : Act} {w : World} {μ : Nat → Value} {own : Nat → Blk} {s : Nat → Slot} {C C' : Wd}
def ownBy (own : Nat → Blk) (g : List Nat) : Blk := fun b => ∃ n, n ∈ g ∧ own n b
theorem allL_in {s0 : Nat → Slot} {L : List (Nat × Nat)} (hok : okLoans s0 L = true) : ∀ {o : Ow}, o.allL (fun _ => true) = true → (∀ x ∈ o.lns, x ∈ L) → o.allL (fun ls => okLoans s0 ls && decide (∀ x ∈ ls, x ∈ L)) = true
  | .lit, _, _ => rfl
  | .pair x y, h, hl => by
    simp only [Ow.allL, Bool.and_eq_true] at h ⊢
    exact ⟨by simpa using allL_in hok h.1 fun z hz => hl z (List.mem_append_left _ hz), by simpa using allL_in hok h.2 fun z hz => hl z (List.mem_append_right _ hz)⟩
  | .own e, h, hl => allL_in (o := e) hok h hl
  | .ro ls, h, hl => by
    have hl : ∀ x ∈ ls, x ∈ L := hl
    simp only [Ow.allL, Bool.and_eq_true, decide_eq_true_eq]
    refine ⟨?_, hl⟩
    simp only [okLoans, List.all_eq_true] at hok ⊢
    exact fun x hx => hok x (hl x hx)
  | .ref _, h, _ => by cases h
  | .fld _ _, h, _ => by cases h
  | .elt _ _ _ _, h, _ => by cases h
  | .hole _ _ _, h, _ => by cases h
theorem allL_mapL {q q' : List (Nat × Nat) → Bool} {g : List (Nat × Nat) → List (Nat × Nat)} (hg : ∀ ls, q ls = true → q' (g ls) = true) : ∀ {o : Ow}, o.allL q = true → (o.mapL g).allL q' = true
  | .lit, _ => rfl
  | .pair x y, h => by
    simp only [Ow.allL, Bool.and_eq_true] at h
    simp only [Ow.mapL, allL_mk, Bool.and_eq_true]
    exact ⟨allL_mapL hg h.1, allL_mapL hg h.2⟩
  | .own e, h => allL_mapL (o := e) hg h
  | .ro ls, h => hg ls h
  | .ref _, h => by cases h
  | .fld _ _, h => by cases h
  | .elt _ _ _ _, h => by cases h
  | .hole _ _ _, h => by cases h
theorem argOf_K (I : Inv F σ a w μ own) (hs : Under s σ.sto) {m : Mode} {kv : KV} {p : Nat} {x : KV} {g : List Nat} {l : List (Nat × Nat)} (h : argOf s m kv p = some (x, g, l)) {v : Value} (hv : Val (ctx σ.sto w μ own) σ.sto kv v)
    (hok : okLoans σ.sto l = true) (H : Lent (ctx σ.sto w μ own) C' l [(PAR + p, 0)]) : KT0 C' x.t x.o x.v v (ownBy own g) ∧ x.o.allL parOnly = true ∧ ∀ n ∈ g, (s n).lives := by
  unfold argOf at h
  have hpar : parOnly [(PAR + p, 0)] = true := by
    simp only [parOnly, List.all_cons, List.all_nil, Bool.and_true]
    exact Nat.ble_eq_true_of_le (Nat.le_add_right _ _)
  cases h1 : kv.t.one with
  | false => rw [h1] at h; cases h
  | true =>
    rw [h1] at h
    simp only [cond_true] at h
    have fold : (match kv.fold s with
        | some y => bif y.1.o.allL (fun _ => true) then some ((⟨y.1.t, y.1.v, y.1.o.mapL fun _ => [(PAR + p, 0)]⟩ : KV), y.2.2, y.1.o.lns) else none
        | none => none) = some (x, g, l) → KT0 C' x.t x.o x.v v (ownBy own g) ∧ x.o.allL parOnly = true ∧ ∀ n ∈ g, (s n).lives := by
      intro h
      split at h
      · rename_i y hf
        cases hall : y.1.o.allL (fun _ => true) with
        | false => rw [hall] at h; cases h
        | true =>
          rw [hall] at h
          simp only [cond_true, Option.some.injEq, Prod.mk.injEq] at h
          obtain ⟨rfl, rfl, rfl⟩ := h
          unfold KV.fold at hf
          cases hfo : foldV kv.t kv.v kv.o s with
          | none => rw [hfo] at hf; cases hf
          | some z =>
            rw [hfo] at hf
            obtain rfl := Option.some.inj hf
            obtain ⟨k1, k2⟩ := foldV_KT0 _ _ _ _ _ _ hfo ((KT_one h1).1 hv.kt) (I.ents.mono fun n kv p q h => hs _ _ _ _ h) (fun _ _ _ _ h => h)
            have hA := allL_in (s0 := σ.sto) hok hall fun x hx => hx
            have Ln : Lends (ctx σ.sto w μ own) C' (fun ls => okLoans σ.sto ls && decide (∀ x ∈ ls, x ∈ z.2.1.lns)) (fun _ => [(PAR + p, 0)]) := by
              refine ⟨H.w, fun ls h => ?_, fun ls b h hro => ?_⟩
              · simp only [Bool.and_eq_true] at h; exact h.1
              · simp only [Bool.and_eq_true, decide_eq_true_eq] at h
                exact H.ro b (ctx_mono _ _ _ h.2 hro)
            refine ⟨KT0_sub (fun k hk => hk.resolve_left fun h => h) (KT0_of h1 k2 fun hk => K_map Ln _ _ _ _ _ hA hk), allL_mapL (fun _ _ => hpar) hall, fun n hn => (k1.gone n hn).1⟩
      · cases h
    cases m with
    | bor =>
      dsimp only at h
      cases hvw : kv.view [(PAR + p, 0)] s with
      | none => rw [hvw] at h; cases h
      | some y =>
        rw [hvw] at h
        simp only [Option.map_some, Option.some.injEq, Prod.mk.injEq] at h
        obtain ⟨rfl, rfl, rfl⟩ := h
        obtain ⟨k1, t, k2⟩ := view_K I hs h1 hv hvw H
        exact ⟨KT0_sub (fun _ h => h.elim) k1, by rw [k2]; exact allL_roOf hpar t, fun n hn => by cases hn⟩
    | own => exact fold h
    | io => exact fold h
def AllV (C : Wd) (s : Nat → Slot) : List KV → List Value → Prop
  | [], [] => True
  | k :: ks, v :: vs => Val C s k v ∧ AllV C s ks vs
  | _, _ => False
theorem argsOf_K (I : Inv F σ a w μ own) : ∀ (ms : List Mode) (args : List KV) (p : Nat) (s : Nat → Slot) (xs : List KV) (gs : List Nat) (ls : List (List (Nat × Nat))) (vs : List Value), argsOf s ms args p = some (xs, gs, ls) →
    AllV (ctx σ.sto w μ own) σ.sto args vs → Under s σ.sto → (∀ j l, ls[j]? = some l → okLoans σ.sto l = true ∧ Lent (ctx σ.sto w μ own) C' l [(PAR + (p + j), 0)]) →
    KTs C' (packA xs).t (packA xs).o (packA xs).v vs (ownBy own gs) ∧ (packA xs).o.allL parOnly = true ∧ ∀ n ∈ gs, (s n).lives
  | [], [], p, s, xs, gs, ls, vs, h, hv, hs, H => by
    obtain ⟨rfl, rfl, rfl⟩ : [] = xs ∧ [] = gs ∧ [] = ls := by simpa [argsOf] using h
    cases vs with
    | nil => exact ⟨rfl, rfl, fun n hn => by cases hn⟩
    | cons _ _ => exact hv.elim
  | m :: ms, k :: as, p, s, xs, gs, ls, vs, h, hv, hs, H => by
    cases vs with
    | nil => exact hv.elim
    | cons v vs =>
      simp only [argsOf] at h
      split at h
      · cases h
      · rename_i x g l ha
        split at h
        · cases h
        · rename_i xs' gs' ls' hb
          obtain ⟨rfl, rfl, rfl⟩ : x :: xs' = xs ∧ g ++ gs' = gs ∧ l :: ls' = ls := by
            have := Option.some.inj h
            exact ⟨congrArg Prod.fst this, congrArg (·.2.1) this, congrArg (·.2.2) this⟩
          obtain ⟨hv1, hv2⟩ := hv
          obtain ⟨h1, h2⟩ := H 0 l rfl
          obtain ⟨a1, a2, a3⟩ := argOf_K I hs ha hv1 h1 h2
          have live : ∀ n, (updAll s (goneAll g) n).lives → n ∉ g ∧ (s n).lives := fun n ⟨kv, p, q, e⟩ => by
            rw [updAll_gone] at e
            split at e
            · cases e
            · exact ⟨by assumption, _, _, _, e⟩
          have hs' : Under (updAll s (goneAll g)) σ.sto := fun n kv p q e => by
            rw [updAll_gone] at e
            split at e
            · cases e
            · exact hs _ _ _ _ e
          obtain ⟨b1, b2, b3⟩ := argsOf_K I ms as (p + 1) _ xs' gs' ls' vs hb hv2 hs' fun j l' hj => by
            have := H (j + 1) l' hj
            rw [show p + 1 + j = p + (j + 1) by omega]
            exact this
          refine ⟨⟨v, vs, ownBy own g, ownBy own gs', rfl, ?_, ?_, fun k ⟨n, hn, hk⟩ => ⟨n, List.mem_append_left _ hn, hk⟩, fun k ⟨n, hn, hk⟩ => ⟨n, List.mem_append_right _ hn, hk⟩, fun k h1 h2 => ?_⟩, ?_, fun n hn => ?_⟩
          · show KT0 C' x.t (Ow.mk x.o (packA xs').o).fst x.v v _
            rw [Ow.fst_mk]; exact a1
          · show KTs C' _ (Ow.mk x.o (packA xs').o).snd _ vs _
            rw [Ow.snd_mk]; exact b1
          · obtain ⟨n, hn, hk⟩ := h1
            obtain ⟨m, hm, hk'⟩ := h2
            obtain ⟨_, _, _, e1⟩ := a3 n hn
            have e2 := live m (b3 m hm)
            obtain ⟨_, _, _, e3⟩ := e2.2
            exact I.ents.disj n m ⟨_, _, _, hs _ _ _ _ e1⟩ ⟨_, _, _, hs _ _ _ _ e3⟩ (fun e => e2.1 (e ▸ hn)) k hk hk'
          · show (Ow.mk x.o (packA xs').o).allL parOnly = true
            rw [allL_mk, a2, b2]; rfl
          · rcases List.mem_append.1 hn with hn | hn
            · exact a3 n hn
            · exact (live n (b3 n hn)).2
  | [], _ :: _, _, _, _, _, _, _, h, _, _, _ => by cases h
  | _ :: _, [], _, _, _, _, _, _, h, _, _, _ => by cases h
end Go.Proofs.YtlffjoabajdfnaaGreat.Eng
/- What a call gives back: its names, and what goes back to names. No condition. -/
set_option linter.unusedSectionVars false
set_option linter.unusedVariables false
namespace Go.Proofs.YtlffjoabajdfnaaGreat.Eng
variable [Tys] [Rb] [Cx]
variable {F : Fr} {σ σ' : St} {a : Act} {w w' : World} {μ : Nat → Value} {own : Nat → Blk} {s : Nat → Slot} {C C' : Wd}
theorem K_map0 {p : List (Nat × Nat) → Bool} {g : List (Nat × Nat) → List (Nat × Nat)} {c c' : Wd} (H : Lends c c' p g) {t : Ty} {o : Ow} {v : D t} {x : Value} {S : Blk} (ho : o.allL p = true) (h : KT0 c t o v x S) : KT0 c' t (o.mapL g) v x S :=
  KT0_of (KT0_one h) h fun hk => K_map H _ _ _ _ _ ho hk
theorem KTs_map {p : List (Nat × Nat) → Bool} {g : List (Nat × Nat) → List (Nat × Nat)} {c c' : Wd} (H : Lends c c' p g) : ∀ (t : Ty) (o : Ow) (v : D t) (vs : List Value) (S : Blk), o.allL p = true → KTs c t o v vs S → KTs c' t (o.mapL g) v vs S
  | .unit, _, _, _, _, _, h => h
  | .tc a b, o, v, vs, S, ho, h => by
    obtain ⟨y, ys, S1, S2, e, h1, h2, h3, h4, h5⟩ := h
    exact ⟨y, ys, S1, S2, e, by rw [mapL_fst]; exact K_map0 H (allL_fst ho) h1, by rw [mapL_snd]; exact KTs_map H b _ _ _ _ (allL_snd ho) h2, h3, h4, h5⟩
theorem KT_map {p : List (Nat × Nat) → Bool} {g : List (Nat × Nat) → List (Nat × Nat)} {c c' : Wd} (H : Lends c c' p g) {t : Ty} {o : Ow} {v : D t} {x : Value} {S : Blk} (ho : o.allL p = true) (h : KT c t o v x S) : KT c' t (o.mapL g) v x S := by
  cases t <;> simp only [KT] at h ⊢
  case unit => exact h
  case tc a b => obtain ⟨vs, e, h⟩ := h; exact ⟨vs, e, KTs_map H _ _ _ _ _ ho h⟩
  all_goals exact K_map0 H ho h
theorem mapL_says {p : List (Nat × Nat) → Bool} {g : List (Nat × Nat) → List (Nat × Nat)} {n : Nat} : ∀ {o : Ow}, o.allL p = true → ¬ (o.mapL g).says n
  | .lit, _, h => h
  | .pair x y, ho, h => by
    simp only [Ow.allL, Bool.and_eq_true] at ho
    simp only [Ow.mapL, Ow.says_mk] at h
    exact h.elim (mapL_says ho.1) (mapL_says ho.2)
  | .own e, ho, h => mapL_says (o := e) ho h
  | .ro ls, _, h => h
  | .ref _, h, _ => by cases h
  | .fld _ _, h, _ => by cases h
  | .elt _ _ _ _, h, _ => by cases h
  | .hole _ _ _, h, _ => by cases h
theorem mapL_lns {g : List (Nat × Nat) → List (Nat × Nat)} : ∀ {o : Ow}, ∀ x ∈ (o.mapL g).lns, ∃ l, x ∈ g l
  | .lit, x, h => by cases h
  | .pair a b, x, h => by
    simp only [Ow.mapL, Ow.lns_mk, List.mem_append] at h
    exact h.elim (mapL_lns x) (mapL_lns x)
  | .own e, x, h => mapL_lns (o := e) x h
  | .ro ls, x, h => ⟨ls, h⟩
  | .ref _, x, h => by cases h
  | .fld _ _, x, h => by cases h
  | .elt _ _ _ _, x, h => by cases h
  | .hole _ _ _, x, h => by cases h
theorem lendL_mem {ls : List (List (Nat × Nat))} {l : List (Nat × Nat)} {x : Nat × Nat} (h : x ∈ lendL ls l) : ∃ L ∈ ls, x ∈ L := by
  unfold lendL at h
  obtain ⟨y, hy, hx⟩ := List.mem_flatMap.1 h
  rw [List.getD_eq_getElem?_getD] at hx
  cases e : ls[y.1 - PAR]? with
  | none => rw [e] at hx; cases hx
  | some L => rw [e] at hx; exact ⟨L, List.mem_of_getElem? e, hx⟩
abbrev Apart (b : List Bk) : Prop := b.Pairwise (fun x y => x.n ≠ y.n ∧ x.k ≠ y.k)
theorem apartB_spec : ∀ {b : List Bk}, apartB b = true → Apart b
  | [], _ => .nil
  | y :: l, h => by
    simp only [apartB, Bool.and_eq_true] at h
    refine List.pairwise_cons.2 ⟨fun x hx => ?_, apartB_spec h.2⟩
    have := List.all_eq_true.1 h.1 x hx
    simp only [Bool.and_eq_true, Bool.not_eq_true'] at this
    refine ⟨fun e => ?_, fun e => ?_⟩
    · have h1 := this.1; rw [← e, beq_self] at h1; cases h1
    · have h1 := this.2; rw [← e, beq_self] at h1; cases h1
theorem bkCat_some {x y : Option (List Bk)} {b : List Bk} (h : bkCat x y = some b) : ∃ p q, x = some p ∧ y = some q ∧ b = p ++ q := by
  unfold bkCat at h
  split at h
  · exact ⟨_, _, rfl, rfl, (Option.some.inj h).symm⟩
  · cases h
def BkOk (s : Nat → Slot) (new : List (Nat × KV)) (b : List Bk) : Prop := ∀ y ∈ b, (y.k, y.kv) ∈ new ∧ ∃ kv, s y.n = .live kv y.ver y.nver
theorem bkLeaf_spec {new : List (Nat × KV)} {o o' : Ow} {b : List Bk} (h : bkLeaf s new o o' = some b) : BkOk s new b ∧ ∀ y ∈ b, o = .ref y.n ∧ o' = .ref y.k := by
  unfold bkLeaf at h
  split at h
  · rename_i n k
    unfold bkOf at h
    split at h
    · rename_i kv0 ver nver kv hsn hf
      obtain rfl := Option.some.inj h
      refine ⟨fun y hy => ?_, fun y hy => ?_⟩
      · obtain rfl := List.mem_singleton.1 hy; exact ⟨findKV_mem hf, kv0, hsn⟩
      · obtain rfl := List.mem_singleton.1 hy; exact ⟨rfl, rfl⟩
    · cases h
  · cases h
  · obtain rfl := Option.some.inj h
    exact ⟨(by intro y hy; cases hy), by intro y hy; cases hy⟩
theorem backAt_spec {new : List (Nat × KV)} : ∀ (t : Ty) (o o' : Ow) (b : List Bk), backAt s new t o o' = some b →
    BkOk s new b ∧ ∀ (C C' : Wd) (v v' : D t) (S S' : Blk) (cs : List Value), K C t o v cs S → K C' t o' v' cs S' → ∀ y ∈ b, C'.μ y.k = C.μ y.n
  | .pair A B, o, o', b, h => by
    obtain ⟨p, q, h1, h2, rfl⟩ := bkCat_some h
    obtain ⟨a1, a2⟩ := backAt_spec A _ _ _ h1
    obtain ⟨b1, b2⟩ := backAt_spec B _ _ _ h2
    refine ⟨fun y hy => (List.mem_append.1 hy).elim (a1 y) (b1 y), fun C C' v v' S S' cs hk hk' y hy => ?_⟩
    obtain ⟨c1, c2, S1, S2, rfl, k1, k2, _⟩ := hk
    obtain ⟨d1, d2, T1, T2, e, l1, l2, _⟩ := hk'
    have hl : c1.length = d1.length := (K_len _ _ _ _ _ k1).trans (K_len _ _ _ _ _ l1).symm
    obtain ⟨rfl, rfl⟩ := List.append_inj e hl
    exact (List.mem_append.1 hy).elim (a2 C C' _ _ _ _ _ k1 l1 y) (b2 C C' _ _ _ _ _ k2 l2 y)
  | .st i r, o, o', b, h => by
    obtain ⟨a1, a2⟩ := backAt_spec r _ _ _ h
    refine ⟨a1, fun C C' v v' S S' cs hk hk' y hy => ?_⟩
    obtain ⟨h0, k1⟩ := hk
    obtain ⟨h0', k2⟩ := hk'
    exact a2 C C' _ _ _ _ _ k1 k2 y hy
  | .sl A, o, o', b, h => by
    obtain ⟨a1, a2⟩ := bkLeaf_spec (h : bkLeaf s new o o' = some b)
    refine ⟨a1, fun C C' v v' S S' cs hk hk' y hy => ?_⟩
    obtain ⟨rfl, rfl⟩ := a2 y hy
    exact List.singleton_inj.1 (hk'.1.symm.trans hk.1)
  | .bx A, o, o', b, h => by
    obtain ⟨a1, a2⟩ := bkLeaf_spec (h : bkLeaf s new o o' = some b)
    refine ⟨a1, fun C C' v v' S S' cs hk hk' y hy => ?_⟩
    obtain ⟨rfl, rfl⟩ := a2 y hy
    exact List.singleton_inj.1 (hk'.1.symm.trans hk.1)
  | .unit, _, _, b, h => by obtain rfl := Option.some.inj h; exact ⟨(by intro y hy; cases hy), by intro _ _ _ _ _ _ _ _ _ y hy; cases hy⟩
  | .bool, _, _, b, h => by obtain rfl := Option.some.inj h; exact ⟨(by intro y hy; cases hy), by intro _ _ _ _ _ _ _ _ _ y hy; cases hy⟩
  | .str, _, _, b, h => by obtain rfl := Option.some.inj h; exact ⟨(by intro y hy; cases hy), by intro _ _ _ _ _ _ _ _ _ y hy; cases hy⟩
  | .int _, _, _, b, h => by obtain rfl := Option.some.inj h; exact ⟨(by intro y hy; cases hy), by intro _ _ _ _ _ _ _ _ _ y hy; cases hy⟩
  | .pt _, _, _, b, h => by obtain rfl := Option.some.inj h; exact ⟨(by intro y hy; cases hy), by intro _ _ _ _ _ _ _ _ _ y hy; cases hy⟩
  | .tc _ _, _, _, b, h => by obtain rfl := Option.some.inj h; exact ⟨(by intro y hy; cases hy), by intro _ _ _ _ _ _ _ _ _ y hy; cases hy⟩
  | .fn _ _, _, _, b, h => by obtain rfl := Option.some.inj h; exact ⟨(by intro y hy; cases hy), by intro _ _ _ _ _ _ _ _ _ y hy; cases hy⟩
theorem backGo_spec {new : List (Nat × KV)} : ∀ (as : List KV) (ts : Ty) (o : Ow) (b : List Bk), backGo s new as ts o = some b →
    BkOk s new b ∧ ∀ (C C' : Wd) (s' : Nat → Slot) (v : D ts) (S : Blk) (vs : List Value), AllV C s' as vs → KTs C' ts o v vs S → ∀ y ∈ b, C'.μ y.k = C.μ y.n
  | [], .unit, o, b, h => by
    obtain rfl := Option.some.inj h
    exact ⟨(by intro y hy; cases hy), by intro _ _ _ _ _ _ _ _ y hy; cases hy⟩
  | a :: as, .tc t ts, o, b, h => by
    simp only [backGo] at h
    split at h
    · rename_i ht
      subst ht
      obtain ⟨p, q, h1, h2, rfl⟩ := bkCat_some h
      obtain ⟨a1, a2⟩ := backAt_spec _ _ _ _ h1
      obtain ⟨b1, b2⟩ := backGo_spec as ts _ _ h2
      refine ⟨fun y hy => (List.mem_append.1 hy).elim (a1 y) (b1 y), fun C C' s' v S vs hv hk y hy => ?_⟩
      obtain ⟨u, us, S1, S2, rfl, k1, k2, _⟩ := hk
      obtain ⟨hv1, hv2⟩ := hv
      have hone := KT0_one k1
      rcases List.mem_append.1 hy with hy | hy
      · exact a2 C C' _ _ _ _ _ (KT0_cells ((KT_one hone).1 hv1.kt)).1 (KT0_cells k1).1 y hy
      · exact b2 C C' s' _ _ us hv2 k2 y hy
    · cases h
  | [], .bool, _, _, h => by cases h
  | [], .str, _, _, h => by cases h
  | [], .int _, _, _, h => by cases h
  | [], .pair _ _, _, _, h => by cases h
  | [], .st _ _, _, _, h => by cases h
  | [], .sl _, _, _, h => by cases h
  | [], .bx _, _, _, h => by cases h
  | [], .pt _, _, _, h => by cases h
  | [], .tc _ _, _, _, h => by cases h
  | [], .fn _ _, _, _, h => by cases h
  | _ :: _, .unit, _, _, h => by cases h
  | _ :: _, .bool, _, _, h => by cases h
  | _ :: _, .str, _, _, h => by cases h
  | _ :: _, .int _, _, _, h => by cases h
  | _ :: _, .st _ _, _, _, h => by cases h
  | _ :: _, .sl _, _, _, h => by cases h
  | _ :: _, .bx _, _, _, h => by cases h
  | _ :: _, .pt _, _, _, h => by cases h
  | _ :: _, .pair _ _, _, _, h => by cases h
  | _ :: _, .fn _ _, _, _, h => by cases h
theorem upB_out : ∀ (b : List Bk) (s : Nat → Slot) (n : Nat), (∀ y ∈ b, y.n ≠ n) → updAll s (b.map Bk.up) n = s n
  | [], _, _, _ => rfl
  | y :: b, s, n, h => by
    show updAll (slotSet s y.n _) (b.map Bk.up) n = _
    rw [upB_out b _ n fun z hz => h z (List.mem_cons_of_mem _ hz)]
    simp [slotSet, beq_ne (Ne.symm (h y List.mem_cons_self))]
theorem upB_in : ∀ (b : List Bk) (s : Nat → Slot) (y : Bk), b.Pairwise (fun x y => x.n ≠ y.n ∧ x.k ≠ y.k) → y ∈ b → updAll s (b.map Bk.up) y.n = .live y.kv (y.ver + 1) (y.nver + 1)
  | z :: b, s, y, hp, hy => by
    rw [List.pairwise_cons] at hp
    show updAll (slotSet s z.n (.live z.kv (z.ver + 1) (z.nver + 1))) (b.map Bk.up) y.n = _
    rcases List.mem_cons.1 hy with rfl | hy
    · rw [upB_out b _ _ fun z hz => (hp.1 z hz).1.symm]
      simp [slotSet]
    · exact upB_in b _ y hp.2 hy
theorem deadIf_fst (b : List Bk) (z : Nat × KV) : (deadIf b z).1 = z.1 := by
  unfold deadIf
  cases b.any (fun y => Nat.beq y.k z.1) <;> rfl
theorem deadIf_out {b : List Bk} {z : Nat × KV} (h : ∀ y ∈ b, y.k ≠ z.1) : deadIf b z = z := by
  unfold deadIf
  have : b.any (fun y => Nat.beq y.k z.1) = false := by
    rw [List.any_eq_false]
    intro y hy
    rw [beq_ne (h y hy)]
    simp
  rw [this]; rfl
theorem deadIf_in {b : List Bk} {z : Nat × KV} {y : Bk} (hy : y ∈ b) (h : y.k = z.1) : (deadIf b z).2 = ⟨.sl .unit, ([] : List (D .unit)), .ro (deadL b)⟩ := by
  unfold deadIf
  have : b.any (fun y => Nat.beq y.k z.1) = true := List.any_eq_true.2 ⟨y, hy, by rw [h]; exact beq_self _⟩
  rw [this]; rfl
end Go.Proofs.YtlffjoabajdfnaaGreat.Eng
