/- What a function gives back. No condition. -/
import Derived.Test.YthkdkojfahaeaaaGreatEngB
import Derived.ChangeArms
import Derived.ChangeSlices
import Derived.DataReads
import Derived.WideShapes
import Derived.Below
set_option linter.unusedSectionVars false
set_option linter.unusedVariables false
namespace Go.Proofs.YthkdkojfahaeaaaGreat.Eng
variable [Tys] [Rb] [Cx]
variable {F : Fr} {σ : St} {a : Act} {w : World} {μ : Nat → Value} {own : Nat → Blk}
theorem lends0 {s : Nat → Slot} (hT : ∀ n, isTok n = true → μ n = Rb.TV n) : Lends (ctx s w μ own) (ctx0 w) parOnly id := by
  refine ⟨rfl, fun ls h => ?_, fun ls b h hro => ⟨hro.1, fun n kv p q hn => (by cases (show Slot.fresh = .live kv p q from hn)), hro.2.2⟩, fun n hn => (hT n hn).symm⟩
  exact List.all_eq_true.2 fun x hx => by unfold okLoan; rw [List.all_eq_true.1 h x hx]; rfl
theorem ioOf_K (I : Inv F σ a w μ own) : ∀ (ms : List Mode) (p : Nat) (kv : KV), ioOf σ.env ms p = some kv → KTs (ctx σ.sto w μ own) kv.t kv.o kv.v ((iosAt ms p).map fun q => a.tmps.getD q undef) noBlk
  | [], p, kv, h => by
    obtain rfl := Option.some.inj h
    rfl
  | .io :: ms, p, kv, h => by
    simp only [ioOf] at h
    split at h
    · rename_i x r hx hr
      cases h1 : x.t.one with
      | false => rw [h1] at h; cases h
      | true =>
        rw [h1] at h
        obtain rfl := Option.some.inj h
        have h3 := ioOf_K I ms (p + 1) r hr
        have hk := (KT_one h1).1 (I.env p x hx)
        exact ⟨a.tmps.getD p undef, _, noBlk, noBlk, rfl, by rw [Ow.fst_mk]; exact hk, by rw [Ow.snd_mk]; exact h3, fun _ h => h, fun _ h => h, fun _ h => h.elim⟩
    · cases h
  | .bor :: ms, p, kv, h => ioOf_K I ms (p + 1) kv h
  | .own :: ms, p, kv, h => ioOf_K I ms (p + 1) kv h
variable {C : Wd} {s : Nat → Slot}
theorem foldV_KT0 (t : Ty) (v : D t) (o : Ow) (y : D t × Ow × (Nat → Slot) × List Nat) (x : Value) (S : Blk) (h : foldV t v o s = some y) (hk : KT0 C t o v x S) (he : Ents C s own)
    (hd : ∀ n, (s n).lives → ∀ b, own n b → ¬ S b) : Folded C s own S y.2.2.1 y.2.2.2 (fun S' => KT0 C t y.2.1 y.1 x S') := by
  cases t <;> simp only [KT0] at hk ⊢
  case st i r =>
    obtain ⟨cs, e, hk⟩ := hk
    obtain ⟨l, k⟩ := foldV_K _ _ _ _ _ _ _ h hk he hd
    exact ⟨l, cs, e, k⟩
  all_goals exact foldV_K _ _ _ _ _ _ _ h hk he hd
theorem foldV_KTs : ∀ (t : Ty) (v : D t) (o : Ow) (s : Nat → Slot) (y : D t × Ow × (Nat → Slot) × List Nat) (vs : List Value) (S : Blk),
    foldV t v o s = some y → KTs C t o v vs S → Ents C s own → (∀ n, (s n).lives → ∀ b, own n b → ¬ S b) →
    Folded C s own S y.2.2.1 y.2.2.2 (fun S' => KTs C t y.2.1 y.1 vs S')
  | .unit, v, o, s, y, vs, S, h, hk, _, _ => by
    simp only [foldV] at h
    obtain rfl := Option.some.inj h
    exact folded_none (fun _ _ _ h => h) hk
  | .tc a b, v, o, s, y, vs, S, h, hk, he, hd => by
    obtain ⟨u, us, S1, S2, rfl, h1, h2, h3, h4, h5⟩ := hk
    simp only [foldV] at h
    cases ha : foldV a v.1 o.fst s with
    | none => simp [ha] at h
    | some x =>
      obtain ⟨x, p, s1, G1⟩ := x
      simp only [ha] at h
      cases hb : foldV b v.2 o.snd s1 with
      | none => simp [hb] at h
      | some z =>
        obtain ⟨z, q, s2, G2⟩ := z
        simp only [hb] at h
        obtain rfl := Option.some.inj h
        obtain ⟨l1, k1⟩ := foldV_KT0 a _ _ _ _ _ ha h1 he (fun n hn b hb hs => hd n hn b hb (h3 b hs))
        have he1 := he.less l1
        obtain ⟨l2, k2⟩ := foldV_KTs b _ _ _ _ _ _ hb h2 he1 (fun n hn b hb hs => hd n (by obtain ⟨kv, p, q, e⟩ := hn; exact ⟨kv, p, q, (l1.live e).1⟩) b hb (h4 b hs))
        have live2 : ∀ n, n ∈ G2 → (s n).lives ∧ ¬ n ∈ G1 := fun n hn => by
          obtain ⟨⟨kv, p, q, e⟩, _⟩ := l2.gone n hn
          exact ⟨⟨kv, p, q, (l1.live e).1⟩, (l1.live e).2⟩
        refine ⟨(l1.trans l2).imp fun n => by simp, ?_⟩
        refine ⟨u, us, _, _, rfl, by rw [Ow.fst_mk]; exact k1, by rw [Ow.snd_mk]; exact k2, ?_, ?_, ?_⟩
        · rintro k (hk | ⟨n, hn, hk⟩)
          · exact .inl (h3 k hk)
          · exact .inr ⟨n, List.mem_append_left _ hn, hk⟩
        · rintro k (hk | ⟨n, hn, hk⟩)
          · exact .inl (h4 k hk)
          · exact .inr ⟨n, List.mem_append_right _ hn, hk⟩
        · rintro k (hk | ⟨n, hn, hk⟩) (hk' | ⟨m, hm, hk'⟩)
          · exact h5 k hk hk'
          · exact hd m (live2 m hm).1 k hk' (h3 k hk)
          · exact hd n (l1.gone n hn).1 k hk (h4 k hk')
          · exact he.disj n m (l1.gone n hn).1 (live2 m hm).1 (fun e => (live2 m hm).2 (e ▸ hn)) k hk hk'
theorem foldV_KT (t : Ty) (v : D t) (o : Ow) (y : D t × Ow × (Nat → Slot) × List Nat) (x : Value) (S : Blk) (h : foldV t v o s = some y) (hk : KT C t o v x S) (he : Ents C s own)
    (hd : ∀ n, (s n).lives → ∀ b, own n b → ¬ S b) : Folded C s own S y.2.2.1 y.2.2.2 (fun S' => KT C t y.2.1 y.1 x S') := by
  cases t <;> simp only [KT] at hk ⊢
  case unit =>
    simp only [foldV] at h
    obtain rfl := Option.some.inj h
    exact folded_none (fun _ _ _ h => h) hk
  case tc a b =>
    obtain ⟨vs, e, hk⟩ := hk
    obtain ⟨l, k⟩ := foldV_KTs _ _ _ _ _ _ _ h hk he hd
    exact ⟨l, vs, e, k⟩
  all_goals exact foldV_KT0 _ _ _ _ _ _ h hk he hd
theorem K_same0 {p : List (Nat × Nat) → Bool} {c c' : Wd} (H : Lends c c' p id) {t : Ty} {o : Ow} {v : D t} {x : Value} {S : Blk} (ho : o.allL p = true) (h : KT0 c t o v x S) : KT0 c' t o v x S := by
  cases t <;> simp only [KT0] at h ⊢
  case st i r => obtain ⟨cs, e, h⟩ := h; exact ⟨cs, e, K_same H _ _ _ _ _ ho h⟩
  all_goals exact K_same H _ _ _ _ _ ho h
theorem KTs_same {p : List (Nat × Nat) → Bool} {c c' : Wd} (H : Lends c c' p id) : ∀ (t : Ty) (o : Ow) (v : D t) (vs : List Value) (S : Blk), o.allL p = true → KTs c t o v vs S → KTs c' t o v vs S
  | .unit, _, _, _, _, _, h => h
  | .tc a b, o, v, vs, S, ho, h => by
    obtain ⟨y, ys, S1, S2, e, h1, h2, h3, h4, h5⟩ := h
    exact ⟨y, ys, S1, S2, e, K_same0 H (allL_fst ho) h1, KTs_same H b _ _ _ _ (allL_snd ho) h2, h3, h4, h5⟩
theorem KT_same {p : List (Nat × Nat) → Bool} {c c' : Wd} (H : Lends c c' p id) {t : Ty} {o : Ow} {v : D t} {x : Value} {S : Blk} (ho : o.allL p = true) (h : KT c t o v x S) : KT c' t o v x S := by
  cases t <;> simp only [KT] at h ⊢
  case unit => exact h
  case tc a b => obtain ⟨vs, e, h⟩ := h; exact ⟨vs, e, KTs_same H _ _ _ _ _ ho h⟩
  all_goals exact K_same0 H ho h
def Back (F : Fr) : BackT
  | .pair t ts, ro, r, v, w => ∃ S1 S2, KT (ctx0 w) t ro.fst r.1 v S1 ∧ KTs (ctx0 w) ts ro.snd r.2 (F.ps.map F.hd) S2 ∧ (∀ b, S1 b → ¬ S2 b) ∧ (∀ b, S1 b ∨ S2 b → b < w.heap.size ∧ (F.A0 b ∨ F.w0.heap.size ≤ b)) ∧
    w.os = F.w0.os ∧ w.tape = F.w0.tape ∧ w.output = F.w0.output ∧ F.w0.heap.size ≤ w.heap.size ∧ ∀ b, b < F.w0.heap.size → ¬ F.A0 b → w.heap[b]? = F.w0.heap[b]?
  | _, _, _, _, _ => False
def one? : List Value → Value
  | [v] => v
  | vs => .tuple vs.toArray
theorem one?_eq (vs : Array Value) : (if h : vs.size = 1 then vs[0] else .tuple vs) = one? vs.toList := by
  obtain ⟨l⟩ := vs
  match l with
  | [] => rfl
  | [v] => rfl
  | _ :: _ :: _ => rfl
theorem KT0_sub {t : Ty} {o : Ow} {v : D t} {x : Value} {S S' : Blk} (hS : ∀ k, S k → S' k) (h : KT0 C t o v x S) : KT0 C t o v x S' := by
  cases t <;> simp only [KT0] at h ⊢
  case st i r => obtain ⟨cs, e, h⟩ := h; exact ⟨cs, e, K_sub _ _ _ _ _ _ hS h⟩
  all_goals exact K_sub _ _ _ _ _ _ hS h
theorem KT_none {C : Wd} {t : Ty} {o : Ow} {v : D t} {x : Value} {S : Blk} (h : KT C t o v x noBlk) : KT C t o v x S := by
  cases t <;> simp only [KT] at h ⊢
  case unit => exact h
  case tc A B =>
    obtain ⟨vs, e, h⟩ := h
    obtain ⟨y, ys, S1, S2, e2, h1, h2, h3, h4, h5⟩ := h
    exact ⟨vs, e, y, ys, S1, S2, e2, h1, h2, fun k hk => (h3 k hk).elim, fun k hk => (h4 k hk).elim, h5⟩
  all_goals exact KT0_sub (fun _ h => h.elim) h
def rdR (tmps : Array Value) : ResultVar → Sem Value
  | .tmp t => pure (tmps.getD t undef)
  | .cell a t => do loadVar t (← asAddr (tmps.getD a undef))
theorem run_results {tmps : Array Value} {vs : List Value} {fn : Func} (h : (List.mapM (rdR tmps) fn.results.toList).run Cx.P w = .ok vs w) : (results fn tmps).run Cx.P w = .ok (one? vs) w := by
  have e : fn.results = fn.results.toList.toArray := by simp
  unfold results
  rw [e]
  simp only [List.mapM_toArray, Sem.run_bind, map_eq_pure_bind, Result.andThen_ok, Sem.run_pure, Sem.run_map]
  erw [h]
  simp only [Result.andThen_ok, one?_eq]
theorem cellOf_K (G : Good) (I : Inv F σ a w μ own) {s : Nat → Slot} (hs : ∀ n kv p q, s n = .live kv p q → σ.sto n = .live kv p q) {p t : Nat} {x : KV × Nat} (h : cellOf σ.env s p t = some x) :
    ∃ v, (rdR a.tmps (.cell p t)).run Cx.P w = .ok v w ∧ KT0 (ctx σ.sto w μ own) x.1.t x.1.o x.1.v v (own x.2) ∧ (s x.2).lives := by
  unfold cellOf at h
  split at h
  · rename_i c v0 n ty he ht
    cases hc : cellAt s n c ty with
    | none => rw [hc] at h; cases h
    | some kv =>
      rw [hc] at h
      obtain rfl := Option.some.inj h
      unfold cellAt at hc
      split at hc
      · rename_i kv' p' q' hn
        split at hc
        · rename_i e v ho hv
          split at hc
          · rename_i hty
            obtain rfl := Option.some.inj hc
            subst hty
            obtain ⟨e1, rfl⟩ := cast?_eq hv
            obtain ⟨kt, kv0, ko⟩ := kv'
            dsimp only at e1 ho
            subst e1
            subst ho
            have hT := tyOf_TD G ht
            obtain ⟨b, S', hcs, hb, ⟨X, te, hX, hK⟩, hS'⟩ := I.ents.K n _ p' q' (hs _ _ _ _ hn)
            have hx : a.tmps.getD p undef = μ n := List.singleton_inj.1 (I.env p _ he).1
            have hμ : μ n = .pointer (some ⟨b, 0, none⟩) := List.singleton_inj.1 hcs
            have hat : At w ⟨b, 0, none⟩ 0 X.toList := At.cells (off := 0) (hX : w.heap[b]? = some (.cells X te (0, 0)))
            refine ⟨repV c X.toList, ?_, KT0_sub (fun k hk => (hS' k hk).1) (KT0_rep hT.one hK), ⟨_, _, _, hn⟩⟩
            have hl := K_len _ _ _ _ _ hK
            have := run_loadVar hT hl hat
            simp only [rdR, hx, hμ, asAddr, Sem.run_bind, Sem.run_pure, Result.andThen_ok, this]
          · cases hc
        · cases hc
      · cases hc
  · cases h
theorem resOf_K (G : Good) (I : Inv F σ a w μ own) : ∀ (rs : List ResultVar) (s : Nat → Slot) (r : KV × (Nat → Slot)), (∀ n kv p q, s n = .live kv p q → σ.sto n = .live kv p q) → resOf σ.env rs s = some r →
    ∃ (vs : List Value) (Gp : Nat → Prop), (List.mapM (rdR a.tmps) rs).run Cx.P w = .ok vs w ∧ vs.length = rs.length ∧ Less s r.2 Gp ∧ KTs (ctx σ.sto w μ own) r.1.t r.1.o r.1.v vs (fun b => ∃ n, Gp n ∧ own n b)
  | [], s, r, hs, h => by
    obtain rfl := Option.some.inj h
    exact ⟨[], fun _ => False, rfl, rfl, Less.refl s, rfl⟩
  | .tmp t :: rs, s, r, hs, h => by
    simp only [resOf] at h
    split at h
    · rename_i x r' hx hr
      cases h1 : x.t.one with
      | false => rw [h1] at h; cases h
      | true =>
        rw [h1] at h
        obtain rfl := Option.some.inj h
        obtain ⟨vs, Gp, e1, e2, e3, e4⟩ := resOf_K G I rs s r' hs hr
        have hk := (KT_one h1).1 (I.env t x hx)
        refine ⟨a.tmps.getD t undef :: vs, Gp, ?_, by simp [e2], e3, _, vs, noBlk, (fun b => ∃ n, Gp n ∧ own n b), rfl, by rw [Ow.fst_mk]; exact hk, by rw [Ow.snd_mk]; exact e4, fun _ h => h.elim, fun _ h => h, fun _ h => h.elim⟩
        simp only [List.mapM_cons, Sem.run_bind, rdR, Sem.run_pure, Result.andThen_ok]
        erw [e1]
        rfl
    · cases h
  | .cell p t :: rs, s, r, hs, h => by
    simp only [resOf] at h
    split at h
    · rename_i x hx
      split at h
      · rename_i r' hr
        obtain rfl := Option.some.inj h
        obtain ⟨v, c1, c2, c3⟩ := cellOf_K G I hs hx
        have l0 : Less s (slotSet s x.2 .gone) (fun m => m = x.2) := Less.one c3
        obtain ⟨vs, Gp, e1, e2, e3, e4⟩ := resOf_K G I rs _ r' (fun n kv p q h => hs _ _ _ _ (l0.live h).1) hr
        refine ⟨v :: vs, fun n => n = x.2 ∨ Gp n, ?_, by simp [e2], l0.trans e3, v, vs, own x.2, (fun b => ∃ n, Gp n ∧ own n b), rfl, by rw [Ow.fst_mk]; exact c2, by rw [Ow.snd_mk]; exact e4, fun k hk => ⟨_, .inl rfl, hk⟩, fun k ⟨n, hn, hk⟩ => ⟨n, .inr hn, hk⟩, ?_⟩
        · simp only [List.mapM_cons, Sem.run_bind, c1, Result.andThen_ok]
          erw [e1]
          rfl
        · rintro k hk ⟨n, hn, hk'⟩
          obtain ⟨⟨kv, p, q, e⟩, _⟩ := e3.gone n hn
          obtain ⟨kv2, p2, q2, e5⟩ := c3
          exact I.ents.disj n x.2 ⟨_, _, _, hs _ _ _ _ (l0.live e).1⟩ ⟨_, _, _, hs _ _ _ _ e5⟩ (l0.live e).2 k hk' hk
      · cases h
    · cases h
theorem resKV_KT (G : Good) {fn : Func} (I : Inv F σ a w μ own) {r : KV × (Nat → Slot)} (h : resKV σ.env σ.sto fn.results.toList = some r) :
    ∃ v Gp, (results fn a.tmps).run Cx.P w = .ok v w ∧ Less σ.sto r.2 Gp ∧ KT (ctx σ.sto w μ own) r.1.t r.1.o r.1.v v (fun b => ∃ n, Gp n ∧ own n b) := by
  unfold resKV at h
  split at h
  · rename_i t hr
    cases he : σ.env t with
    | none => rw [he] at h; cases h
    | some kv =>
      rw [he] at h
      obtain rfl := Option.some.inj h
      have hrun : (List.mapM (rdR a.tmps) fn.results.toList).run Cx.P w = .ok [a.tmps.getD t undef] w := by
        rw [hr]
        simp only [List.mapM_cons, List.mapM_nil, Sem.run_bind, rdR, Sem.run_pure, Result.andThen_ok]
      refine ⟨_, fun _ => False, run_results hrun, Less.refl _, ?_⟩
      have hk := I.env t kv he
      exact KT_none hk
  · rename_i p t hr
    cases hc : cellOf σ.env σ.sto p t with
    | none => rw [hc] at h; cases h
    | some x =>
      rw [hc] at h
      obtain rfl := Option.some.inj h
      obtain ⟨v, c1, c2, c3⟩ := cellOf_K G I (fun _ _ _ _ h => h) hc
      have hrun : (List.mapM (rdR a.tmps) fn.results.toList).run Cx.P w = .ok [v] w := by
        rw [hr]
        simp only [List.mapM_cons, List.mapM_nil, Sem.run_bind, c1, Sem.run_pure, Result.andThen_ok]
      exact ⟨v, fun m => m = x.2, run_results hrun, Less.one c3, (KT_one (KT0_one c2)).2 (KT0_sub (fun k hk => ⟨_, rfl, hk⟩) c2)⟩
  · rename_i hne1 hne2
    obtain ⟨vs, Gp, e1, e2, e3, hk⟩ := resOf_K G I _ _ _ (fun _ _ _ _ h => h) h
    refine ⟨_, Gp, run_results e1, e3, ?_⟩
    obtain ⟨⟨t, v, o⟩, s'⟩ := r
    dsimp only at hk ⊢
    match vs, e2 with
    | [], e2 =>
      cases t <;> first | exact rfl | (obtain ⟨_, _, _, _, h, _⟩ := hk; cases h) | exact hk.elim
    | [t1], e2 =>
      exfalso
      match hr : fn.results.toList, e2 with
      | [.tmp t], _ => exact hne1 t hr
      | [.cell p t], _ => exact hne2 p t hr
    | t1 :: t2 :: ts, e2 =>
      cases t <;> first | exact ⟨_, rfl, hk⟩ | exact hk.elim | cases hk
theorem ret_back (G : Good) {fn : Func} {modes : List Mode} {rt : Ty} {ro : Ow} {r : D rt} (hps : F.ps = iosAt modes 0) (I : InvE F σ a w) (h : retOf fn modes σ rt ro = some r) :
    ∃ v, (results fn a.tmps).run Cx.P w = .ok v w ∧ Back F rt ro r v w := by
  obtain ⟨μ, own, I⟩ := I
  unfold retOf at h
  split at h
  · rename_i x io hx hio
    obtain ⟨v, Gp, hv, l0, hk⟩ := resKV_KT G I hx
    have hki := ioOf_K I _ _ _ hio
    have hh : ((iosAt modes 0).map fun q => a.tmps.getD q undef) = F.ps.map F.hd := by
      rw [← hps]
      exact List.map_congr_left fun p hp => I.heads p hp
    rw [hh] at hki
    split at h
    · rename_i x' s' g' hf
      split at h
      · rename_i io' g2 hf2
        obtain ⟨⟨xt, xv, xo⟩, s0⟩ := x
        obtain ⟨it, iv, io⟩ := io
        unfold KV.fold at hf hf2
        dsimp only at hf hf2 hk hki
        cases h1 : foldV xt xv xo s0 with
        | none => rw [h1] at hf; cases hf
        | some y =>
          rw [h1] at hf
          obtain ⟨rfl, rfl, rfl⟩ : (⟨xt, y.1, y.2.1⟩ : KV) = x' ∧ y.2.2.1 = s' ∧ y.2.2.2 = g' := by
            simp only [Option.map_some, Option.some.injEq, Prod.mk.injEq] at hf
            exact ⟨hf.1, congrArg Prod.fst hf.2, congrArg Prod.snd hf.2⟩
          cases h2 : foldV it iv io y.2.2.1 with
          | none => rw [h2] at hf2; cases hf2
          | some z =>
            rw [h2] at hf2
            obtain ⟨rfl, rfl⟩ : (⟨it, z.1, z.2.1⟩ : KV) = io' ∧ z.2.2 = g2 := by
              simp only [Option.map_some, Option.some.injEq, Prod.mk.injEq] at hf2
              exact hf2
            cases hb : ((Ow.mk y.2.1 z.2.1).beq ro && ro.allL parOnly) with
            | false => dsimp only at h; rw [hb] at h; cases h
            | true =>
              dsimp only at h
              rw [hb] at h
              simp only [cond_true] at h
              obtain ⟨e, rfl⟩ := cast?_eq h
              subst e
              simp only [Bool.and_eq_true] at hb
              obtain ⟨hb1, hb2⟩ := hb
              obtain rfl := Ow.beq_eq hb1
              rw [allL_mk] at hb2
              simp only [Bool.and_eq_true] at hb2
              obtain ⟨l1, k1⟩ := foldV_KT _ _ _ _ _ _ h1 hk (I.ents.less l0) (fun n ⟨kv, p, q, e⟩ b hb ⟨m, hm, hb'⟩ => I.ents.disj n m ⟨_, _, _, (l0.live e).1⟩ (l0.gone m hm).1 (fun e' => (l0.live e).2 (e' ▸ hm)) b hb hb')
              obtain ⟨l2, k2⟩ := foldV_KTs _ _ _ _ _ _ _ h2 hki ((I.ents.less l0).less l1) (fun _ _ _ _ h => h.elim)
              have b0 : ∀ n, Gp n ∨ n ∈ y.2.2.2 → (σ.sto n).lives := fun n hn => by
                rcases hn with hn | hn
                · exact (l0.gone n hn).1
                · obtain ⟨kv, p, q, e⟩ := (l1.gone n hn).1
                  exact ⟨_, _, _, (l0.live e).1⟩
              have b2 : ∀ n, n ∈ z.2.2.2 → (σ.sto n).lives ∧ ¬ (Gp n ∨ n ∈ y.2.2.2) := fun n hn => by
                obtain ⟨kv, p, q, e⟩ := (l2.gone n hn).1
                have e1 := l1.live e
                have e2 := l0.live e1.1
                exact ⟨⟨kv, p, q, e2.1⟩, fun h => h.elim e2.2 e1.2⟩
              have bd : ∀ n, (σ.sto n).lives → ∀ b, own n b → b < w.heap.size ∧ (F.A0 b ∨ F.w0.heap.size ≤ b) := fun n ⟨kv, p, q, e⟩ b hb => I.bound n kv p q e b hb
              refine ⟨v, hv, fun b => (∃ n, Gp n ∧ own n b) ∨ ∃ n, n ∈ y.2.2.2 ∧ own n b, fun b => noBlk b ∨ ∃ n, n ∈ z.2.2.2 ∧ own n b, ?_, ?_, ?_, ?_, I.os, I.tape, I.output, I.size, I.frame⟩
              · rw [Ow.fst_mk]; exact KT_same (lends0 fun n hn => (I.toks n hn).2) hb2.1 k1
              · rw [Ow.snd_mk]; exact KTs_same (lends0 fun n hn => (I.toks n hn).2) _ _ _ _ _ hb2.2 k2
              · rintro b h1 (h' | ⟨m, hm, hb'⟩)
                · exact h'
                · obtain ⟨n, hn, hb⟩ : ∃ n, (Gp n ∨ n ∈ y.2.2.2) ∧ own n b := h1.elim (fun ⟨n, hn, hb⟩ => ⟨n, .inl hn, hb⟩) (fun ⟨n, hn, hb⟩ => ⟨n, .inr hn, hb⟩)
                  exact I.ents.disj n m (b0 n hn) (b2 m hm).1 (fun e => (b2 m hm).2 (e ▸ hn)) b hb hb'
              · rintro b ((⟨n, hn, hb⟩ | ⟨n, hn, hb⟩) | (h | ⟨n, hn, hb⟩))
                · exact bd n (b0 n (.inl hn)) b hb
                · exact bd n (b0 n (.inr hn)) b hb
                · exact h.elim
                · exact bd n (b2 n hn).1 b hb
      · cases h
    · cases h
  · cases h
end Go.Proofs.YthkdkojfahaeaaaGreat.Eng
/- What is handed to a call. No condition. -/
set_option linter.unusedSectionVars false
set_option linter.unusedVariables false
namespace Go.Proofs.YthkdkojfahaeaaaGreat.Eng
variable [Tys] [Rb] [Cx]
variable {F : Fr} {σ : St} {a : Act} {w : World} {μ : Nat → Value} {own : Nat → Blk} {s : Nat → Slot} {C C' : Wd}
def Under (s s0 : Nat → Slot) : Prop := ∀ n kv p q, s n = .live kv p q → s0 n = .live kv p q
theorem okLoan_under {s0 : Nat → Slot} (h : Under s s0) {l : Nat × Nat} (hl : okLoan s l = true) : okLoan s0 l = true := by
  unfold okLoan at hl ⊢
  cases hp : Nat.ble PAR l.1 with
  | true => rfl
  | false =>
    rw [hp] at hl
    simp only [Bool.false_or] at hl ⊢
    cases e : s l.1 with
    | fresh => rw [e] at hl; cases hl
    | gone => rw [e] at hl; cases hl
    | live kv p q => rw [h _ _ _ _ e]; rw [e] at hl; exact hl
theorem okLoans_under {s0 : Nat → Slot} (h : Under s s0) {ls : List (Nat × Nat)} (hl : okLoans s ls = true) : okLoans s0 ls = true := by
  simp only [okLoans, List.all_eq_true] at hl ⊢
  exact fun x hx => okLoan_under h (hl x hx)
theorem loansN_live {n : Nat} {kv : KV} {p q : Nat} (h : s n = .live kv p q) : loansN n (s n) = whole n p :: kv.o.lns := by rw [h]; rfl
theorem lns_loansO : ∀ {o : Ow}, ∀ x ∈ o.lns, x ∈ loansO s o
  | .pair a b, x, h => by
    simp only [loansO, List.mem_append]
    exact (List.mem_append.1 h).imp (lns_loansO x) (lns_loansO x)
  | .own e, x, h => lns_loansO (o := e) x h
  | .ro ls, x, h => h
  | .lit, x, h => by cases h
  | .ref _, x, h => by cases h
  | .fld _ _, x, h => by cases h
  | .elt _ _ _ _, x, h => by cases h
  | .gap e _, x, h => lns_loansO (o := e) x h
  | .cut _ _ _, x, h => by cases h
  | .hole a _ b, x, h => by
    simp only [loansO, List.mem_append]
    exact (List.mem_append.1 h).imp (lns_loansO x) (lns_loansO x)
theorem says_loansO {n : Nat} {kv : KV} {p q : Nat} (hn : s n = .live kv p q) : ∀ {o : Ow}, o.says n → ∀ x ∈ whole n p :: kv.o.lns, x ∈ loansO s o
  | .pair a b, h, x, hx => by
    simp only [loansO, List.mem_append]
    exact h.imp (fun h => says_loansO hn h x hx) (fun h => says_loansO hn h x hx)
  | .own e, h, x, hx => says_loansO hn (o := e) h x hx
  | .ref m, h, x, hx => by obtain rfl : m = n := h; rw [← loansN_live hn] at hx; exact hx
  | .fld m _, h, x, hx => by obtain rfl : m = n := h; rw [← loansN_live hn] at hx; exact hx
  | .elt m _ _ _, h, x, hx => by obtain rfl : m = n := h; rw [← loansN_live hn] at hx; exact hx
  | .gap e _, h, x, hx => says_loansO hn (o := e) h x hx
  | .cut m _ _, h, x, hx => by obtain rfl : m = n := h; rw [← loansN_live hn] at hx; exact hx
  | .hole a _ b, h, x, hx => by
    simp only [loansO, List.mem_append]
    exact Or.imp (fun h => says_loansO hn h x hx) (fun h => says_loansO hn h x hx) h
structure Lent (C C' : Wd) (l r : List (Nat × Nat)) : Prop where
  w : C'.w = C.w
  ro : ∀ b, C.RO l b → C'.RO r b
section
variable {l r : List (Nat × Nat)}
theorem cov_of (I : Inv F σ a w μ own) (hs : Under s σ.sto) (H : Lent (ctx σ.sto w μ own) C' l r) {S : Blk} {L : List (Nat × Nat)} (hL : ∀ x ∈ L, x ∈ l) (hS : ∀ b, S b → (ctx σ.sto w μ own).RO l b) : Cov s (ctx σ.sto w μ own) C' r L S :=
  ⟨H.w, fun l' h => okLoans_under hs h, fun b hb => H.ro b (hS b hb), fun l' b hl' _ h => H.ro b (ctx_mono l' l b (fun x hx => hL x (hl' x hx)) h)⟩
theorem refs_of (I : Inv F σ a w μ own) (hs : Under s σ.sto) (H : Lent (ctx σ.sto w μ own) C' l r) {o : Ow} (hl : ∀ x ∈ loansO s o, x ∈ l) : Refs s (ctx σ.sto w μ own) C' r o.says := by
  intro n kv p q hn he
  have hm := says_loansO he hn
  exact ⟨own n, I.ents.K n kv p q (hs _ _ _ _ he), cov_of I hs H (fun x hx => hl x (hm x (List.mem_cons_of_mem _ hx))) fun b hb => I.whole n kv p q (hs _ _ _ _ he) l b hb (hl _ (hm _ List.mem_cons_self))⟩
theorem KT0_of {t : Ty} {o : Ow} {v v' : D t} {o' : Ow} {x : Value} {S S' : Blk} (h1 : t.one = true) (h : KT0 C t o v x S) (k : K C t o v x.cells.toList S → K C' t o' v' x.cells.toList S') : KT0 C' t o' v' x S' := by
  obtain ⟨h2, h3⟩ := KT0_cells h
  rw [h3]
  exact KT0_rep h1 (k h2)
theorem view_K (I : Inv F σ a w μ own) (hs : Under s σ.sto) {x y : KV} {v : Value} (h1 : x.t.one = true) (hv : Val (ctx σ.sto w μ own) σ.sto x v) (h : x.view r s = some y)
    (H : Lent (ctx σ.sto w μ own) C' (x.loans s) r) : KT0 C' y.t y.o y.v v noBlk ∧ ∃ t : Ty, y.o = t.roOf r := by
  have hk := (KT_one h1).1 hv.kt
  unfold KV.view at h
  split at h
  · rename_i A v0 n
    have hl : KV.loans ⟨.bx A, v0, .ref n⟩ s = (match s n with
      | .live e ver _ => whole n ver :: loansO s e.o.elems
      | _ => []) := rfl
    split at h
    · rename_i e p q hn
      rw [hn] at hl
      dsimp only at hl
      split at h
      · rename_i o' x0 ho hx
        cases hvw : viewV r A x0 o' s with
        | none => rw [hvw] at h; cases h
        | some z =>
          rw [hvw] at h
          obtain rfl := Option.some.inj h
          obtain ⟨e1, rfl⟩ := cast?_eq hx
          have hent := I.ents.K n e p q (hs _ _ _ _ hn)
          obtain ⟨et, ev, eo⟩ := e
          dsimp only at e1 ho hent
          subst e1
          subst ho
          have hk' : [v] = [μ n] := hk.1
          obtain ⟨b, S', hcs, hb, ⟨X, te, hX, hK⟩, hS'⟩ := hent
          have hvb : v = .pointer (some ⟨b, 0, none⟩) := by
            have := hk'.trans hcs
            exact List.singleton_inj.1 this
          have hro : ∀ k, own n k → (ctx σ.sto w μ own).RO (KV.loans ⟨.bx A, v0, .ref n⟩ s) k := fun k hk => I.whole n _ p q (hs _ _ _ _ hn) _ k hk (by rw [hl]; exact List.mem_cons_self)
          have hsub : ∀ x ∈ loansO s o', x ∈ KV.loans ⟨.bx A, v0, .ref n⟩ s := fun x hx => by rw [hl]; exact List.mem_cons_of_mem _ hx
          have k2 := viewV_K A _ o' z X.toList S' hvw (cov_of I hs H (fun x hx => hsub x (lns_loansO x hx)) fun k hk => hro k (hS' k hk).1) (refs_of I hs H hsub) hK
          refine ⟨⟨v, rfl, by rw [hvb]; rfl, fun _ => ⟨⟨b, 0, none⟩, X.toList, hvb, H.ro b (hro b hb), k2, ?_⟩⟩, .sl .unit, rfl⟩
          rw [H.w]
          exact At.cells (off := 0) (hX : w.heap[b]? = some (.cells X te (0, 0)))
      · cases h
    · cases h
  · rename_i A v0 l'
    cases hb : (okLoans s l' && A.flat) with
    | false => rw [hb] at h; cases h
    | true =>
      rw [hb] at h
      simp only [cond_true, Option.some.injEq] at h
      subst h
      simp only [Bool.and_eq_true] at hb
      obtain ⟨y, h2, h3, h4⟩ := hk
      obtain ⟨ad, xs, e1, e2, e3, e4⟩ := h4 (okLoans_under hs hb.1)
      refine ⟨⟨y, h2, h3, fun _ => ⟨ad, xs, e1, H.ro _ e2, ?_, by rw [H.w]; exact e4⟩⟩, .sl .unit, rfl⟩
      exact viewK A _ _ _ _ hb.2 (Ty.anon_roOf hb.1 A) (cov_of I hs H (fun x hx => Ty.lns_roOf A hx) fun _ h => h.elim) e3
  · rename_i t v0 o hne1 hne2
    cases hvw : viewV r t v0 o s with
    | none => rw [hvw] at h; cases h
    | some z =>
      rw [hvw] at h
      obtain rfl := Option.some.inj h
      refine ⟨KT0_of h1 hk fun hk => ?_, t, rfl⟩
      have hl : KV.loans ⟨t, v0, o⟩ s = loansO s o := by
        unfold KV.loans
        split
        · rename_i heq
          cases heq
          exact (hne1 _ _ _ rfl HEq.rfl rfl).elim
        · rename_i heq
          cases heq
          rfl
      rw [hl] at H
      exact viewV_K t v0 o z _ _ hvw (cov_of I hs H (fun x hx => lns_loansO x hx) fun _ h => h.elim) (refs_of I hs H fun x hx => hx) hk
end
end Go.Proofs.YthkdkojfahaeaaaGreat.Eng
/- The arguments of a call. No condition. -/
set_option linter.unusedSectionVars false
set_option linter.unusedVariables false
namespace Go.Proofs.YthkdkojfahaeaaaGreat.Eng
variable [Tys] [Rb] [Cx]
variable {F : Fr} {σ : St} {a : Act} {w : World} {μ : Nat → Value} {own : Nat → Blk} {s : Nat → Slot} {C C' : Wd}
def ownBy (own : Nat → Blk) (g : List Nat) : Blk := fun b => ∃ n, n ∈ g ∧ own n b
/-! ### What is lent aside -/
section
variable {m : List Nat} {c : Wd}
def muZ (m : List Nat) (μ : Nat → Value) : Nat → Value := fun n => bif isTok n then (match m[n - TOK]? with
  | some k => μ k
  | none => μ n) else μ n
theorem muZ_clear {k : Nat} (h : (Nat.blt k TOK || Nat.ble (TOK + m.length) k) = true) : muZ m μ k = μ k := by
  unfold muZ
  cases ht : isTok k with
  | false => rfl
  | true =>
    rw [cond_true]
    have h1 := (isTok_iff.1 ht).1
    rw [Bool.or_eq_true] at h
    have h2 : TOK + m.length ≤ k := h.elim (fun h => by have : k < TOK := by simpa using h
                                                        omega) Nat.le_of_ble_eq_true
    rw [List.getElem?_eq_none (by omega)]
theorem muZ_not {k : Nat} (h : isTok k = false) : muZ m μ k = μ k := by
  unfold muZ; rw [h]; rfl
theorem muZ_idx (hm : m.length ≤ 1000) {n j : Nat} (h : idxOf n m 0 = some j) : muZ m μ (TOK + j) = μ n := by
  have hi := (idxOf_spec h).2
  rw [Nat.sub_zero] at hi
  have hj := (List.getElem?_eq_some_iff.1 hi).1
  have ht : isTok (TOK + j) = true := isTok_iff.2 ⟨Nat.le_add_right _ _, by unfold TOK PAR; omega⟩
  unfold muZ
  rw [ht, cond_true, Nat.add_sub_cancel_left, hi]
theorem frz_fst (o : Ow) : (o.frz m).fst = o.fst.frz m := by
  cases o with
  | ref n => simp only [Ow.frz]; cases idxOf n m 0 <;> rfl
  | _ => rfl
theorem frz_snd (o : Ow) : (o.frz m).snd = o.snd.frz m := by
  cases o with
  | ref n => simp only [Ow.frz]; cases idxOf n m 0 <;> rfl
  | _ => rfl
theorem clear_fst {k : Nat} {o : Ow} (h : o.clear k = true) : o.fst.clear k = true := by
  cases o <;> simp_all [Ow.fst, Ow.clear]
theorem clear_snd {k : Nat} {o : Ow} (h : o.clear k = true) : o.snd.clear k = true := by
  cases o <;> simp_all [Ow.snd, Ow.clear]
theorem K_frz (hm : m.length ≤ 1000) : ∀ (t : Ty) (o : Ow) (v : D t) (cs : List Value) (S : Blk), o.clear m.length = true → K c t o v cs S → K (c.mu (muZ m c.μ)) t (o.frz m) v cs S
  | .unit, _, _, _, _, _, h => h
  | .bool, _, _, _, _, _, h => h
  | .str, _, _, _, _, _, h => h
  | .fn _ _, _, _, _, _, _, h => h
  | .int _, _, _, _, _, _, h => h
  | .pair A B, o, v, cs, S, hc, h => by
    obtain ⟨c1, c2, S1, S2, rfl, h1, h2, h3, h4, h5⟩ := h
    exact ⟨c1, c2, S1, S2, rfl, by rw [frz_fst]; exact K_frz hm A _ _ _ _ (clear_fst hc) h1, by rw [frz_snd]; exact K_frz hm B _ _ _ _ (clear_snd hc) h2, h3, h4, h5⟩
  | .st i r, o, v, cs, S, hc, h => by
    obtain ⟨h0, h1⟩ := h
    exact ⟨h0, K_frz hm r _ _ _ _ hc h1⟩
  | .sl A, o, v, cs, S, hc, h => by
    cases o with
    | own e =>
      rcases h with h | ⟨b, off, cap, X, te, h1, h2, h3, h4, h5, Sr, h6, h7, h8⟩
      · exact .inl h
      · refine .inr ⟨b, off, cap, X, te, h1, h2, h3, h4, h5, Sr, h6, h7, fun i x hx => ?_⟩
        obtain ⟨xs, k1, k2⟩ := h8 i x hx
        exact ⟨xs, K_frz hm A e _ _ _ hc k1, k2⟩
    | hole e j e' =>
      simp only [Ow.clear, Bool.and_eq_true] at hc
      obtain ⟨b, off, cap, X, te, h1, h2, h3, h4, h5, hj, Sr, h6, h7, h8⟩ := h
      refine ⟨b, off, cap, X, te, h1, h2, h3, h4, h5, hj, Sr, h6, h7, fun i x hx => ?_⟩
      obtain ⟨xs, k1, k2⟩ := h8 i x hx
      refine ⟨xs, ?_, k2⟩
      by_cases e : i = j
      · rw [if_pos e] at k1 ⊢; exact K_frz hm A _ _ _ _ hc.2 k1
      · rw [if_neg e] at k1 ⊢; exact K_frz hm A _ _ _ _ hc.1 k1
    | gap e k =>
      rcases h with h | ⟨b, off, cap, X, te, h1, h2, h3, h4, h5, Sr, h6, h7, h8⟩
      · exact .inl h
      · refine .inr ⟨b, off, cap, X, te, h1, h2, h3, h4, h5, Sr, h6, h7, fun i x hx hi => ?_⟩
        obtain ⟨xs, k1, k2⟩ := h8 i x hx hi
        exact ⟨xs, K_frz hm A e _ _ _ hc k1, k2⟩
    | cut n lo hi =>
      obtain ⟨Ad, len, cap, h1, h2⟩ := h
      exact ⟨Ad, len, cap, (muZ_clear (μ := c.μ) hc).trans h1, h2⟩
    | ro ls =>
      obtain ⟨y, h1, h2, h3⟩ := h
      refine ⟨y, h1, h2, fun hok => ?_⟩
      obtain ⟨Ad, cap, e1, e2, e3⟩ := h3 hok
      refine ⟨Ad, cap, e1, e2, fun hne => ?_⟩
      obtain ⟨ad, e4, e5, e6⟩ := e3 hne
      refine ⟨ad, e4, e5, fun i x hx => ?_⟩
      obtain ⟨xs, k1, k2⟩ := e6 i x hx
      exact ⟨xs, K_keep (c := c) (c' := c.mu (muZ m c.μ)) _ _ _ _ _ (keeps_mu fun n hn => absurd hn (Ty.says_roOf _ _ _)) k1, k2⟩
    | ref n =>
      obtain ⟨h1, h2⟩ := h
      simp only [Ow.frz]
      cases hi : idxOf n m 0 with
      | none =>
        show cs = [muZ m c.μ n] ∧ (muZ m c.μ n).oneCell' = true
        rw [muZ_clear hc]; exact ⟨h1, h2⟩
      | some j =>
        show cs = [muZ m c.μ (TOK + j)] ∧ (muZ m c.μ (TOK + j)).oneCell' = true
        rw [muZ_idx hm hi]; exact ⟨h1, h2⟩
    | lit => exact h.elim
    | pair _ _ => exact h.elim
    | fld _ _ => exact h.elim
    | elt _ _ _ _ => exact h.elim
  | .bx A, o, v, cs, S, hc, h => by
    cases o with
    | own e =>
      obtain ⟨b, S', h1, h2, ⟨X, te, h3, h4⟩, h5⟩ := h
      exact ⟨b, S', h1, h2, ⟨X, te, h3, K_frz hm A e _ _ _ hc h4⟩, h5⟩
    | ref n =>
      obtain ⟨h1, h2⟩ := h
      simp only [Ow.frz]
      cases hi : idxOf n m 0 with
      | none =>
        show cs = [muZ m c.μ n] ∧ (muZ m c.μ n).oneCell' = true
        rw [muZ_clear hc]; exact ⟨h1, h2⟩
      | some j =>
        show cs = [muZ m c.μ (TOK + j)] ∧ (muZ m c.μ (TOK + j)).oneCell' = true
        rw [muZ_idx hm hi]; exact ⟨h1, h2⟩
    | ro ls => exact h.elim
    | lit => exact h.elim
    | pair _ _ => exact h.elim
    | hole _ _ _ => exact h.elim
    | gap _ _ => exact h.elim
    | cut _ _ _ => exact h.elim
    | fld _ _ => exact h.elim
    | elt _ _ _ _ => exact h.elim
  | .pt A, o, v, cs, S, hc, h => by
    cases o with
    | ro ls =>
      obtain ⟨y, h1, h2, h3⟩ := h
      refine ⟨y, h1, h2, fun hok => ?_⟩
      obtain ⟨ad, xs, e1, e2, e3, e4⟩ := h3 hok
      exact ⟨ad, xs, e1, e2, K_keep (c := c) (c' := c.mu (muZ m c.μ)) _ _ _ _ _ (keeps_mu fun n hn => absurd hn (Ty.says_roOf _ _ _)) e3, e4⟩
    | fld n off =>
      obtain ⟨b, h1, h2⟩ := h
      exact ⟨b, (muZ_clear (μ := c.μ) hc).trans h1, h2⟩
    | elt n off r i =>
      obtain ⟨b, o, len, cap, h1, h2⟩ := h
      exact ⟨b, o, len, cap, (muZ_clear (μ := c.μ) hc).trans h1, h2⟩
    | ref n => exact h.elim
    | own e => exact h.elim
    | lit => exact h.elim
    | pair _ _ => exact h.elim
    | hole _ _ _ => exact h.elim
    | gap _ _ => exact h.elim
    | cut _ _ _ => exact h.elim
theorem frzS_live {n : Nat} {kv : KV} {p q : Nat} (h : frzS m s n = .live kv p q) : ∃ kv0, s n = .live kv0 p q ∧ kv0.o.clear m.length = true ∧ kv = ⟨kv0.t, kv0.v, kv0.o.frz m⟩ := by
  unfold frzS frzSlot at h
  split at h
  · rename_i kv0 p0 q0 hn
    cases hc : kv0.o.clear m.length with
    | false => rw [hc] at h; cases h
    | true =>
      rw [hc] at h
      cases h
      exact ⟨kv0, hn, hc, rfl⟩
  · rename_i hne
    exact absurd h (hne _ _ _)
theorem Ents.frz (hm : m.length ≤ 1000) (h : Ents c s own) (hs : ∀ n, (s n).lives → isTok n = false) : Ents (c.mu (muZ m c.μ)) (frzS m s) own := by
  refine ⟨fun n kv p q hn => ?_, fun n k ⟨kv, p, q, e⟩ ⟨kv', p', q', e'⟩ hne => ?_⟩
  · obtain ⟨kv0, h1, h2, rfl⟩ := frzS_live hn
    have := K_frz hm _ _ _ _ _ h2 (h.K n kv0 p q h1)
    rw [show (c.mu (muZ m c.μ)).μ n = c.μ n from muZ_not (hs n ⟨_, _, _, h1⟩)]
    exact this
  · obtain ⟨kv0, h1, _⟩ := frzS_live e
    obtain ⟨kv0', h1', _⟩ := frzS_live e'
    exact h.disj n k ⟨_, _, _, h1⟩ ⟨_, _, _, h1'⟩ hne
theorem KT0_frz (hm : m.length ≤ 1000) {t : Ty} {o : Ow} {v : D t} {x : Value} {S : Blk} (hc : o.clear m.length = true) (h : KT0 c t o v x S) : KT0 (c.mu (muZ m c.μ)) t (o.frz m) v x S := by
  cases t <;> simp only [KT0] at h ⊢
  case st i r => obtain ⟨cs, e, h⟩ := h; exact ⟨cs, e, K_frz hm _ _ _ _ _ hc h⟩
  all_goals exact K_frz hm _ _ _ _ _ hc h
end
theorem allL_in {s0 : Nat → Slot} {L : List (Nat × Nat)} (hok : okLoans s0 L = true) : ∀ {o : Ow}, o.allL (fun _ => true) = true → (∀ x ∈ o.lns, x ∈ L) → o.allL (fun ls => okLoans s0 ls && decide (∀ x ∈ ls, x ∈ L)) = true
  | .lit, _, _ => rfl
  | .pair x y, h, hl => by
    simp only [Ow.allL, Bool.and_eq_true] at h ⊢
    exact ⟨by simpa using allL_in hok h.1 fun z hz => hl z (List.mem_append_left _ hz), by simpa using allL_in hok h.2 fun z hz => hl z (List.mem_append_right _ hz)⟩
  | .own e, h, hl => allL_in (o := e) hok h hl
  | .ro ls, h, hl => by
    have hl : ∀ x ∈ ls, x ∈ L := hl
    simp only [Ow.allL, Bool.and_eq_true, decide_eq_true_eq]
    refine ⟨?_, hl⟩
    simp only [okLoans, List.all_eq_true] at hok ⊢
    exact fun x hx => hok x (hl x hx)
  | .ref _, h, _ => h
  | .fld _ _, h, _ => by cases h
  | .elt _ _ _ _, h, _ => by cases h
  | .hole _ _ _, h, _ => by cases h
  | .gap _ _, h, _ => by cases h
  | .cut _ _ _, h, _ => by cases h
theorem allL_mapL {q q' : List (Nat × Nat) → Bool} {g : List (Nat × Nat) → List (Nat × Nat)} (hg : ∀ ls, q ls = true → q' (g ls) = true) : ∀ {o : Ow}, o.allL q = true → (o.mapL g).allL q' = true
  | .lit, _ => rfl
  | .pair x y, h => by
    simp only [Ow.allL, Bool.and_eq_true] at h
    simp only [Ow.mapL, allL_mk, Bool.and_eq_true]
    exact ⟨allL_mapL hg h.1, allL_mapL hg h.2⟩
  | .own e, h => allL_mapL (o := e) hg h
  | .ro ls, h => hg ls h
  | .ref _, h => h
  | .fld _ _, h => by cases h
  | .elt _ _ _ _, h => by cases h
  | .hole _ _ _, h => by cases h
  | .gap _ _, h => by cases h
  | .cut _ _ _, h => by cases h
theorem argOf_K {fz : List Nat} (I : Inv F σ a w μ own) (hs : Under s σ.sto) (hmu : ∀ n, isTok n = true → C'.μ n = muZ fz μ n) {m : Mode} {kv : KV} {p : Nat} {x : KV} {g : List Nat} {l : List (Nat × Nat)} (h : argOf fz s m kv p = some (x, g, l)) {v : Value} (hv : Val (ctx σ.sto w μ own) σ.sto kv v)
    (hok : okLoans σ.sto l = true) (H : Lent (ctx σ.sto w μ own) C' l [(PAR + p, 0)]) : KT0 C' x.t x.o x.v v (ownBy own g) ∧ x.o.allL parOnly = true ∧ ∀ n ∈ g, (s n).lives := by
  unfold argOf at h
  have hpar : parOnly [(PAR + p, 0)] = true := by
    simp only [parOnly, List.all_cons, List.all_nil, Bool.and_true]
    exact Nat.ble_eq_true_of_le (Nat.le_add_right _ _)
  cases h1 : kv.t.one with
  | false => rw [h1] at h; cases h
  | true =>
    rw [h1] at h
    simp only [cond_true] at h
    have fold : (match (bif kv.o.clear fz.length && Nat.ble fz.length 1000 then KV.fold ⟨kv.t, kv.v, kv.o.frz fz⟩ (frzS fz s) else none) with
        | some y => bif y.1.o.allL (fun _ => true) then some ((⟨y.1.t, y.1.v, y.1.o.mapL fun _ => [(PAR + p, 0)]⟩ : KV), y.2.2, y.1.o.lns) else none
        | none => none) = some (x, g, l) → KT0 C' x.t x.o x.v v (ownBy own g) ∧ x.o.allL parOnly = true ∧ ∀ n ∈ g, (s n).lives := by
      intro h
      split at h
      · rename_i y hf
        cases hall : y.1.o.allL (fun _ => true) with
        | false => rw [hall] at h; cases h
        | true =>
          rw [hall] at h
          simp only [cond_true, Option.some.injEq, Prod.mk.injEq] at h
          obtain ⟨rfl, rfl, rfl⟩ := h
          cases hz : (kv.o.clear fz.length && Nat.ble fz.length 1000) with
          | false => rw [hz] at hf; cases hf
          | true =>
          rw [hz, cond_true] at hf
          simp only [Bool.and_eq_true] at hz
          have hlen := Nat.le_of_ble_eq_true hz.2
          unfold KV.fold at hf
          dsimp only at hf
          cases hfo : foldV kv.t kv.v (kv.o.frz fz) (frzS fz s) with
          | none => rw [hfo] at hf; cases hf
          | some z =>
            rw [hfo] at hf
            obtain rfl := Option.some.inj hf
            have hE := Ents.frz (m := fz) hlen (I.ents.mono fun n kv p q h => hs _ _ _ _ h) (fun n ⟨kv, p, q, e⟩ => by
              cases ht : isTok n with
              | false => rfl
              | true => have := (I.toks n ht).1; rw [hs _ _ _ _ e] at this; cases this)
            obtain ⟨k1, k2⟩ := foldV_KT0 _ _ _ _ _ _ hfo (KT0_frz hlen hz.1 ((KT_one h1).1 hv.kt)) hE (fun _ _ _ _ h => h)
            have hA := allL_in (s0 := σ.sto) hok hall fun x hx => hx
            have Ln : Lends ((ctx σ.sto w μ own).mu (muZ fz (ctx σ.sto w μ own).μ)) C' (fun ls => okLoans σ.sto ls && decide (∀ x ∈ ls, x ∈ z.2.1.lns)) (fun _ => [(PAR + p, 0)]) := by
              refine ⟨H.w, fun ls h => ?_, fun ls b h hro => ?_, hmu⟩
              · simp only [Bool.and_eq_true] at h; exact h.1
              · simp only [Bool.and_eq_true, decide_eq_true_eq] at h
                exact H.ro b (ctx_mono _ _ _ h.2 hro)
            refine ⟨KT0_sub (fun k hk => hk.resolve_left fun h => h) (KT0_of h1 k2 fun hk => K_map Ln _ _ _ _ _ hA hk), allL_mapL (fun _ _ => hpar) hall, fun n hn => ?_⟩
            obtain ⟨⟨_, _, _, e⟩, _⟩ := k1.gone n hn
            obtain ⟨_, e', _⟩ := frzS_live e
            exact ⟨_, _, _, e'⟩
      · cases h
    cases m with
    | bor =>
      dsimp only at h
      cases hvw : kv.view [(PAR + p, 0)] s with
      | none => rw [hvw] at h; cases h
      | some y =>
        rw [hvw] at h
        simp only [Option.map_some, Option.some.injEq, Prod.mk.injEq] at h
        obtain ⟨rfl, rfl, rfl⟩ := h
        obtain ⟨k1, t, k2⟩ := view_K I hs h1 hv hvw H
        exact ⟨KT0_sub (fun _ h => h.elim) k1, by rw [k2]; exact allL_roOf hpar t, fun n hn => by cases hn⟩
    | own => exact fold h
    | io => exact fold h
def AllV (C : Wd) (s : Nat → Slot) : List KV → List Value → Prop
  | [], [] => True
  | k :: ks, v :: vs => Val C s k v ∧ AllV C s ks vs
  | _, _ => False
theorem argsOf_K {fz : List Nat} (I : Inv F σ a w μ own) (hmu : ∀ n, isTok n = true → C'.μ n = muZ fz μ n) : ∀ (ms : List Mode) (args : List KV) (p : Nat) (s : Nat → Slot) (xs : List KV) (gs : List Nat) (ls : List (List (Nat × Nat))) (vs : List Value), argsOf fz s ms args p = some (xs, gs, ls) →
    AllV (ctx σ.sto w μ own) σ.sto args vs → Under s σ.sto → (∀ j l, ls[j]? = some l → okLoans σ.sto l = true ∧ Lent (ctx σ.sto w μ own) C' l [(PAR + (p + j), 0)]) →
    KTs C' (packA xs).t (packA xs).o (packA xs).v vs (ownBy own gs) ∧ (packA xs).o.allL parOnly = true ∧ ∀ n ∈ gs, (s n).lives
  | [], [], p, s, xs, gs, ls, vs, h, hv, hs, H => by
    obtain ⟨rfl, rfl, rfl⟩ : [] = xs ∧ [] = gs ∧ [] = ls := by simpa [argsOf] using h
    cases vs with
    | nil => exact ⟨rfl, rfl, fun n hn => by cases hn⟩
    | cons _ _ => exact hv.elim
  | m :: ms, k :: as, p, s, xs, gs, ls, vs, h, hv, hs, H => by
    cases vs with
    | nil => exact hv.elim
    | cons v vs =>
      simp only [argsOf] at h
      split at h
      · cases h
      · rename_i x g l ha
        split at h
        · cases h
        · rename_i xs' gs' ls' hb
          obtain ⟨rfl, rfl, rfl⟩ : x :: xs' = xs ∧ g ++ gs' = gs ∧ l :: ls' = ls := by
            have := Option.some.inj h
            exact ⟨congrArg Prod.fst this, congrArg (·.2.1) this, congrArg (·.2.2) this⟩
          obtain ⟨hv1, hv2⟩ := hv
          obtain ⟨h1, h2⟩ := H 0 l rfl
          obtain ⟨a1, a2, a3⟩ := argOf_K I hs hmu ha hv1 h1 h2
          have live : ∀ n, (updAll s (goneAll g) n).lives → n ∉ g ∧ (s n).lives := fun n ⟨kv, p, q, e⟩ => by
            rw [updAll_gone] at e
            split at e
            · cases e
            · exact ⟨by assumption, _, _, _, e⟩
          have hs' : Under (updAll s (goneAll g)) σ.sto := fun n kv p q e => by
            rw [updAll_gone] at e
            split at e
            · cases e
            · exact hs _ _ _ _ e
          obtain ⟨b1, b2, b3⟩ := argsOf_K I hmu ms as (p + 1) _ xs' gs' ls' vs hb hv2 hs' fun j l' hj => by
            have := H (j + 1) l' hj
            rw [show p + 1 + j = p + (j + 1) by omega]
            exact this
          refine ⟨⟨v, vs, ownBy own g, ownBy own gs', rfl, ?_, ?_, fun k ⟨n, hn, hk⟩ => ⟨n, List.mem_append_left _ hn, hk⟩, fun k ⟨n, hn, hk⟩ => ⟨n, List.mem_append_right _ hn, hk⟩, fun k h1 h2 => ?_⟩, ?_, fun n hn => ?_⟩
          · show KT0 C' x.t (Ow.mk x.o (packA xs').o).fst x.v v _
            rw [Ow.fst_mk]; exact a1
          · show KTs C' _ (Ow.mk x.o (packA xs').o).snd _ vs _
            rw [Ow.snd_mk]; exact b1
          · obtain ⟨n, hn, hk⟩ := h1
            obtain ⟨m, hm, hk'⟩ := h2
            obtain ⟨_, _, _, e1⟩ := a3 n hn
            have e2 := live m (b3 m hm)
            obtain ⟨_, _, _, e3⟩ := e2.2
            exact I.ents.disj n m ⟨_, _, _, hs _ _ _ _ e1⟩ ⟨_, _, _, hs _ _ _ _ e3⟩ (fun e => e2.1 (e ▸ hn)) k hk hk'
          · show (Ow.mk x.o (packA xs').o).allL parOnly = true
            rw [allL_mk, a2, b2]; rfl
          · rcases List.mem_append.1 hn with hn | hn
            · exact a3 n hn
            · exact (live n (b3 n hn)).2
  | [], _ :: _, _, _, _, _, _, _, h, _, _, _ => by cases h
  | _ :: _, [], _, _, _, _, _, _, h, _, _, _ => by cases h
end Go.Proofs.YthkdkojfahaeaaaGreat.Eng
/- What a call gives back: its names, and what goes back to names. No condition. -/
set_option linter.unusedSectionVars false
set_option linter.unusedVariables false
namespace Go.Proofs.YthkdkojfahaeaaaGreat.Eng
variable [Tys] [Rb] [Cx]
variable {F : Fr} {σ σ' : St} {a : Act} {w w' : World} {μ : Nat → Value} {own : Nat → Blk} {s : Nat → Slot} {C C' : Wd}
theorem K_map0 {p : List (Nat × Nat) → Bool} {g : List (Nat × Nat) → List (Nat × Nat)} {c c' : Wd} (H : Lends c c' p g) {t : Ty} {o : Ow} {v : D t} {x : Value} {S : Blk} (ho : o.allL p = true) (h : KT0 c t o v x S) : KT0 c' t (o.mapL g) v x S :=
  KT0_of (KT0_one h) h fun hk => K_map H _ _ _ _ _ ho hk
theorem KTs_map {p : List (Nat × Nat) → Bool} {g : List (Nat × Nat) → List (Nat × Nat)} {c c' : Wd} (H : Lends c c' p g) : ∀ (t : Ty) (o : Ow) (v : D t) (vs : List Value) (S : Blk), o.allL p = true → KTs c t o v vs S → KTs c' t (o.mapL g) v vs S
  | .unit, _, _, _, _, _, h => h
  | .tc a b, o, v, vs, S, ho, h => by
    obtain ⟨y, ys, S1, S2, e, h1, h2, h3, h4, h5⟩ := h
    exact ⟨y, ys, S1, S2, e, by rw [mapL_fst]; exact K_map0 H (allL_fst ho) h1, by rw [mapL_snd]; exact KTs_map H b _ _ _ _ (allL_snd ho) h2, h3, h4, h5⟩
theorem KT_map {p : List (Nat × Nat) → Bool} {g : List (Nat × Nat) → List (Nat × Nat)} {c c' : Wd} (H : Lends c c' p g) {t : Ty} {o : Ow} {v : D t} {x : Value} {S : Blk} (ho : o.allL p = true) (h : KT c t o v x S) : KT c' t (o.mapL g) v x S := by
  cases t <;> simp only [KT] at h ⊢
  case unit => exact h
  case tc a b => obtain ⟨vs, e, h⟩ := h; exact ⟨vs, e, KTs_map H _ _ _ _ _ ho h⟩
  all_goals exact K_map0 H ho h
/-! ### Behind the call: what was lent aside -/
section
variable {m : List Nat} {c : Wd}
theorem thw_fst (o : Ow) : (o.thw m).fst = o.fst.thw m := by
  cases o with
  | ref n =>
    simp only [Ow.thw]
    cases isTok n with
    | false => rfl
    | true => rw [cond_true]; split <;> rfl
  | _ => rfl
theorem thw_snd (o : Ow) : (o.thw m).snd = o.snd.thw m := by
  cases o with
  | ref n =>
    simp only [Ow.thw]
    cases isTok n with
    | false => rfl
    | true => rw [cond_true]; split <;> rfl
  | _ => rfl
theorem ref_thw {n : Nat} {cs : List Value} (h : cs = [muZ m c.μ n] ∧ (muZ m c.μ n).oneCell' = true) : ∃ k, (Ow.ref n).thw m = .ref k ∧ cs = [c.μ k] ∧ (c.μ k).oneCell' = true := by
  simp only [Ow.thw]
  unfold muZ at h
  cases ht : isTok n with
  | false => rw [ht] at h; exact ⟨n, rfl, h⟩
  | true =>
    rw [ht, cond_true] at h
    rw [cond_true]
    cases hk : m[n - TOK]? with
    | none => rw [hk] at h; exact ⟨n, rfl, h⟩
    | some k => rw [hk] at h; exact ⟨k, rfl, h⟩
theorem K_thw : ∀ (t : Ty) (o : Ow) (v : D t) (cs : List Value) (S : Blk), o.allL (fun _ => true) = true → K (c.mu (muZ m c.μ)) t o v cs S → K c t (o.thw m) v cs S
  | .unit, _, _, _, _, _, h => h
  | .bool, _, _, _, _, _, h => h
  | .str, _, _, _, _, _, h => h
  | .fn _ _, _, _, _, _, _, h => h
  | .int _, _, _, _, _, _, h => h
  | .pair A B, o, v, cs, S, hc, h => by
    obtain ⟨c1, c2, S1, S2, rfl, h1, h2, h3, h4, h5⟩ := h
    exact ⟨c1, c2, S1, S2, rfl, by rw [thw_fst]; exact K_thw A _ _ _ _ (allL_fst hc) h1, by rw [thw_snd]; exact K_thw B _ _ _ _ (allL_snd hc) h2, h3, h4, h5⟩
  | .st i r, o, v, cs, S, hc, h => by
    obtain ⟨h0, h1⟩ := h
    exact ⟨h0, K_thw r _ _ _ _ hc h1⟩
  | .sl A, o, v, cs, S, hc, h => by
    cases o with
    | own e =>
      rcases h with h | ⟨b, off, cap, X, te, h1, h2, h3, h4, h5, Sr, h6, h7, h8⟩
      · exact .inl h
      · refine .inr ⟨b, off, cap, X, te, h1, h2, h3, h4, h5, Sr, h6, h7, fun i x hx => ?_⟩
        obtain ⟨xs, k1, k2⟩ := h8 i x hx
        exact ⟨xs, K_thw A e _ _ _ hc k1, k2⟩
    | ro ls =>
      obtain ⟨y, h1, h2, h3⟩ := h
      refine ⟨y, h1, h2, fun hok => ?_⟩
      obtain ⟨Ad, cap, e1, e2, e3⟩ := h3 hok
      refine ⟨Ad, cap, e1, e2, fun hne => ?_⟩
      obtain ⟨ad, e4, e5, e6⟩ := e3 hne
      refine ⟨ad, e4, e5, fun i x hx => ?_⟩
      obtain ⟨xs, k1, k2⟩ := e6 i x hx
      exact ⟨xs, K_keep (c := c.mu (muZ m c.μ)) (c' := (c.mu (muZ m c.μ)).mu c.μ) _ _ _ _ _ (keeps_mu fun n hn => absurd hn (Ty.says_roOf _ _ _)) k1, k2⟩
    | ref n =>
      obtain ⟨k, e, h⟩ := ref_thw h
      rw [e]; exact h
    | lit => exact h.elim
    | pair _ _ => exact h.elim
    | hole _ _ _ => cases hc
    | gap _ _ => cases hc
    | cut _ _ _ => cases hc
    | fld _ _ => exact h.elim
    | elt _ _ _ _ => exact h.elim
  | .bx A, o, v, cs, S, hc, h => by
    cases o with
    | own e =>
      obtain ⟨b, S', h1, h2, ⟨X, te, h3, h4⟩, h5⟩ := h
      exact ⟨b, S', h1, h2, ⟨X, te, h3, K_thw A e _ _ _ hc h4⟩, h5⟩
    | ref n =>
      obtain ⟨k, e, h⟩ := ref_thw h
      rw [e]; exact h
    | ro ls => exact h.elim
    | lit => exact h.elim
    | pair _ _ => exact h.elim
    | hole _ _ _ => cases hc
    | gap _ _ => cases hc
    | cut _ _ _ => cases hc
    | fld _ _ => exact h.elim
    | elt _ _ _ _ => exact h.elim
  | .pt A, o, v, cs, S, hc, h => by
    cases o with
    | ro ls =>
      obtain ⟨y, h1, h2, h3⟩ := h
      refine ⟨y, h1, h2, fun hok => ?_⟩
      obtain ⟨ad, xs, e1, e2, e3, e4⟩ := h3 hok
      exact ⟨ad, xs, e1, e2, K_keep (c := c.mu (muZ m c.μ)) (c' := (c.mu (muZ m c.μ)).mu c.μ) _ _ _ _ _ (keeps_mu fun n hn => absurd hn (Ty.says_roOf _ _ _)) e3, e4⟩
    | fld n off => cases hc
    | elt n off r i => cases hc
    | ref n => exact h.elim
    | own e => exact h.elim
    | lit => exact h.elim
    | pair _ _ => exact h.elim
    | hole _ _ _ => cases hc
    | gap _ _ => cases hc
    | cut _ _ _ => cases hc
theorem KT0_thw {t : Ty} {o : Ow} {v : D t} {x : Value} {S : Blk} (hc : o.allL (fun _ => true) = true) (h : KT0 (c.mu (muZ m c.μ)) t o v x S) : KT0 c t (o.thw m) v x S := by
  cases t <;> simp only [KT0] at h ⊢
  case st i r => obtain ⟨cs, e, h⟩ := h; exact ⟨cs, e, K_thw _ _ _ _ _ hc h⟩
  all_goals exact K_thw _ _ _ _ _ hc h
theorem KTs_thw : ∀ (t : Ty) (o : Ow) (v : D t) (vs : List Value) (S : Blk), o.allL (fun _ => true) = true → KTs (c.mu (muZ m c.μ)) t o v vs S → KTs c t (o.thw m) v vs S
  | .unit, _, _, _, _, _, h => h
  | .tc a b, o, v, vs, S, ho, h => by
    obtain ⟨y, ys, S1, S2, e, h1, h2, h3, h4, h5⟩ := h
    exact ⟨y, ys, S1, S2, e, by rw [thw_fst]; exact KT0_thw (allL_fst ho) h1, by rw [thw_snd]; exact KTs_thw b _ _ _ _ (allL_snd ho) h2, h3, h4, h5⟩
theorem KT_thw {t : Ty} {o : Ow} {v : D t} {x : Value} {S : Blk} (ho : o.allL (fun _ => true) = true) (h : KT (c.mu (muZ m c.μ)) t o v x S) : KT c t (o.thw m) v x S := by
  cases t <;> simp only [KT] at h ⊢
  case unit => exact h
  case tc a b => obtain ⟨vs, e, h⟩ := h; exact ⟨vs, e, KTs_thw _ _ _ _ _ ho h⟩
  all_goals exact KT0_thw ho h
theorem thw_says {p : List (Nat × Nat) → Bool} {n : Nat} : ∀ {o : Ow}, o.allL p = true → (o.thw m).says n → isTok n = true ∨ n ∈ m
  | .lit, _, h => h.elim
  | .pair x y, ho, h => by
    simp only [Ow.allL, Bool.and_eq_true] at ho
    simp only [Ow.thw, Ow.says] at h
    exact h.elim (thw_says ho.1) (thw_says ho.2)
  | .own e, ho, h => thw_says (o := e) ho h
  | .ro ls, _, h => h.elim
  | .ref k, ho, h => by
    have ho : isTok k = true := ho
    simp only [Ow.thw, ho, cond_true] at h
    cases hk : m[k - TOK]? with
    | none => rw [hk] at h; have h : k = n := h; exact .inl (h ▸ ho)
    | some k' => rw [hk] at h; have h : k' = n := h; exact .inr (h ▸ List.mem_of_getElem? hk)
  | .fld _ _, h, _ => by cases h
  | .elt _ _ _ _, h, _ => by cases h
  | .hole _ _ _, h, _ => by cases h
  | .gap _ _, h, _ => by cases h
  | .cut _ _ _, h, _ => by cases h
theorem lns_thw : ∀ {o : Ow}, (o.thw m).lns = o.lns
  | .pair a b => by simp only [Ow.thw, Ow.lns, lns_thw (o := a), lns_thw (o := b)]
  | .own e => lns_thw (o := e)
  | .hole a _ b => by simp only [Ow.thw, Ow.lns, lns_thw (o := a), lns_thw (o := b)]
  | .gap e _ => lns_thw (o := e)
  | .cut _ _ _ => rfl
  | .ref n => by
    simp only [Ow.thw]
    cases isTok n with
    | false => rfl
    | true => rw [cond_true]; split <;> rfl
  | .lit => rfl
  | .ro _ => rfl
  | .fld _ _ => rfl
  | .elt _ _ _ _ => rfl
end
theorem mapL_lns {g : List (Nat × Nat) → List (Nat × Nat)} : ∀ {o : Ow}, ∀ x ∈ (o.mapL g).lns, ∃ l, x ∈ g l
  | .lit, x, h => by cases h
  | .pair a b, x, h => by
    simp only [Ow.mapL, Ow.lns_mk, List.mem_append] at h
    exact h.elim (mapL_lns x) (mapL_lns x)
  | .own e, x, h => mapL_lns (o := e) x h
  | .ro ls, x, h => ⟨ls, h⟩
  | .ref _, x, h => by cases h
  | .fld _ _, x, h => by cases h
  | .elt _ _ _ _, x, h => by cases h
  | .hole _ _ _, x, h => by cases h
  | .gap _ _, x, h => by cases h
  | .cut _ _ _, x, h => by cases h
theorem lendL_mem {ls : List (List (Nat × Nat))} {l : List (Nat × Nat)} {x : Nat × Nat} (h : x ∈ lendL ls l) : ∃ L ∈ ls, x ∈ L := by
  unfold lendL at h
  obtain ⟨y, hy, hx⟩ := List.mem_flatMap.1 h
  rw [List.getD_eq_getElem?_getD] at hx
  cases e : ls[y.1 - PAR]? with
  | none => rw [e] at hx; cases hx
  | some L => rw [e] at hx; exact ⟨L, List.mem_of_getElem? e, hx⟩
abbrev Apart (b : List Bk) : Prop := b.Pairwise (fun x y => x.n ≠ y.n ∧ x.k ≠ y.k)
theorem apartB_spec : ∀ {b : List Bk}, apartB b = true → Apart b
  | [], _ => .nil
  | y :: l, h => by
    simp only [apartB, Bool.and_eq_true] at h
    refine List.pairwise_cons.2 ⟨fun x hx => ?_, apartB_spec h.2⟩
    have := List.all_eq_true.1 h.1 x hx
    simp only [Bool.and_eq_true, Bool.not_eq_true'] at this
    refine ⟨fun e => ?_, fun e => ?_⟩
    · have h1 := this.1; rw [← e, beq_self] at h1; cases h1
    · have h1 := this.2; rw [← e, beq_self] at h1; cases h1
theorem bkCat_some {x y : Option (List Bk)} {b : List Bk} (h : bkCat x y = some b) : ∃ p q, x = some p ∧ y = some q ∧ b = p ++ q := by
  unfold bkCat at h
  split at h
  · exact ⟨_, _, rfl, rfl, (Option.some.inj h).symm⟩
  · cases h
def BkOk (s : Nat → Slot) (new : List (Nat × KV)) (b : List Bk) : Prop := ∀ y ∈ b, (y.k, y.kv) ∈ new ∧ ∃ kv, s y.n = .live kv y.ver y.nver
theorem bkLeaf_spec {new : List (Nat × KV)} {o o' : Ow} {b : List Bk} (h : bkLeaf s new o o' = some b) : BkOk s new b ∧ ∀ y ∈ b, o = .ref y.n ∧ o' = .ref y.k := by
  unfold bkLeaf at h
  split at h
  · rename_i n k
    unfold bkOf at h
    split at h
    · rename_i kv0 ver nver kv hsn hf
      obtain rfl := Option.some.inj h
      refine ⟨fun y hy => ?_, fun y hy => ?_⟩
      · obtain rfl := List.mem_singleton.1 hy; exact ⟨findKV_mem hf, kv0, hsn⟩
      · obtain rfl := List.mem_singleton.1 hy; exact ⟨rfl, rfl⟩
    · cases h
  · cases h
  · obtain rfl := Option.some.inj h
    exact ⟨(by intro y hy; cases hy), by intro y hy; cases hy⟩
theorem backAt_spec {new : List (Nat × KV)} : ∀ (t : Ty) (o o' : Ow) (b : List Bk), backAt s new t o o' = some b →
    BkOk s new b ∧ ∀ (C C' : Wd) (v v' : D t) (S S' : Blk) (cs : List Value), K C t o v cs S → K C' t o' v' cs S' → ∀ y ∈ b, C'.μ y.k = C.μ y.n
  | .pair A B, o, o', b, h => by
    obtain ⟨p, q, h1, h2, rfl⟩ := bkCat_some h
    obtain ⟨a1, a2⟩ := backAt_spec A _ _ _ h1
    obtain ⟨b1, b2⟩ := backAt_spec B _ _ _ h2
    refine ⟨fun y hy => (List.mem_append.1 hy).elim (a1 y) (b1 y), fun C C' v v' S S' cs hk hk' y hy => ?_⟩
    obtain ⟨c1, c2, S1, S2, rfl, k1, k2, _⟩ := hk
    obtain ⟨d1, d2, T1, T2, e, l1, l2, _⟩ := hk'
    have hl : c1.length = d1.length := (K_len _ _ _ _ _ k1).trans (K_len _ _ _ _ _ l1).symm
    obtain ⟨rfl, rfl⟩ := List.append_inj e hl
    exact (List.mem_append.1 hy).elim (a2 C C' _ _ _ _ _ k1 l1 y) (b2 C C' _ _ _ _ _ k2 l2 y)
  | .st i r, o, o', b, h => by
    obtain ⟨a1, a2⟩ := backAt_spec r _ _ _ h
    refine ⟨a1, fun C C' v v' S S' cs hk hk' y hy => ?_⟩
    obtain ⟨h0, k1⟩ := hk
    obtain ⟨h0', k2⟩ := hk'
    exact a2 C C' _ _ _ _ _ k1 k2 y hy
  | .sl A, o, o', b, h => by
    obtain ⟨a1, a2⟩ := bkLeaf_spec (h : bkLeaf s new o o' = some b)
    refine ⟨a1, fun C C' v v' S S' cs hk hk' y hy => ?_⟩
    obtain ⟨rfl, rfl⟩ := a2 y hy
    exact List.singleton_inj.1 (hk'.1.symm.trans hk.1)
  | .bx A, o, o', b, h => by
    obtain ⟨a1, a2⟩ := bkLeaf_spec (h : bkLeaf s new o o' = some b)
    refine ⟨a1, fun C C' v v' S S' cs hk hk' y hy => ?_⟩
    obtain ⟨rfl, rfl⟩ := a2 y hy
    exact List.singleton_inj.1 (hk'.1.symm.trans hk.1)
  | .unit, _, _, b, h => by obtain rfl := Option.some.inj h; exact ⟨(by intro y hy; cases hy), by intro _ _ _ _ _ _ _ _ _ y hy; cases hy⟩
  | .bool, _, _, b, h => by obtain rfl := Option.some.inj h; exact ⟨(by intro y hy; cases hy), by intro _ _ _ _ _ _ _ _ _ y hy; cases hy⟩
  | .str, _, _, b, h => by obtain rfl := Option.some.inj h; exact ⟨(by intro y hy; cases hy), by intro _ _ _ _ _ _ _ _ _ y hy; cases hy⟩
  | .int _, _, _, b, h => by obtain rfl := Option.some.inj h; exact ⟨(by intro y hy; cases hy), by intro _ _ _ _ _ _ _ _ _ y hy; cases hy⟩
  | .pt _, _, _, b, h => by obtain rfl := Option.some.inj h; exact ⟨(by intro y hy; cases hy), by intro _ _ _ _ _ _ _ _ _ y hy; cases hy⟩
  | .tc _ _, _, _, b, h => by obtain rfl := Option.some.inj h; exact ⟨(by intro y hy; cases hy), by intro _ _ _ _ _ _ _ _ _ y hy; cases hy⟩
  | .fn _ _, _, _, b, h => by obtain rfl := Option.some.inj h; exact ⟨(by intro y hy; cases hy), by intro _ _ _ _ _ _ _ _ _ y hy; cases hy⟩
theorem backGo_spec {new : List (Nat × KV)} : ∀ (as : List KV) (ts : Ty) (o : Ow) (b : List Bk), backGo s new as ts o = some b →
    BkOk s new b ∧ ∀ (C C' : Wd) (s' : Nat → Slot) (v : D ts) (S : Blk) (vs : List Value), AllV C s' as vs → KTs C' ts o v vs S → ∀ y ∈ b, C'.μ y.k = C.μ y.n
  | [], .unit, o, b, h => by
    obtain rfl := Option.some.inj h
    exact ⟨(by intro y hy; cases hy), by intro _ _ _ _ _ _ _ _ y hy; cases hy⟩
  | a :: as, .tc t ts, o, b, h => by
    simp only [backGo] at h
    split at h
    · rename_i ht
      subst ht
      obtain ⟨p, q, h1, h2, rfl⟩ := bkCat_some h
      obtain ⟨a1, a2⟩ := backAt_spec _ _ _ _ h1
      obtain ⟨b1, b2⟩ := backGo_spec as ts _ _ h2
      refine ⟨fun y hy => (List.mem_append.1 hy).elim (a1 y) (b1 y), fun C C' s' v S vs hv hk y hy => ?_⟩
      obtain ⟨u, us, S1, S2, rfl, k1, k2, _⟩ := hk
      obtain ⟨hv1, hv2⟩ := hv
      have hone := KT0_one k1
      rcases List.mem_append.1 hy with hy | hy
      · exact a2 C C' _ _ _ _ _ (KT0_cells ((KT_one hone).1 hv1.kt)).1 (KT0_cells k1).1 y hy
      · exact b2 C C' s' _ _ us hv2 k2 y hy
    · cases h
  | [], .bool, _, _, h => by cases h
  | [], .str, _, _, h => by cases h
  | [], .int _, _, _, h => by cases h
  | [], .pair _ _, _, _, h => by cases h
  | [], .st _ _, _, _, h => by cases h
  | [], .sl _, _, _, h => by cases h
  | [], .bx _, _, _, h => by cases h
  | [], .pt _, _, _, h => by cases h
  | [], .tc _ _, _, _, h => by cases h
  | [], .fn _ _, _, _, h => by cases h
  | _ :: _, .unit, _, _, h => by cases h
  | _ :: _, .bool, _, _, h => by cases h
  | _ :: _, .str, _, _, h => by cases h
  | _ :: _, .int _, _, _, h => by cases h
  | _ :: _, .st _ _, _, _, h => by cases h
  | _ :: _, .sl _, _, _, h => by cases h
  | _ :: _, .bx _, _, _, h => by cases h
  | _ :: _, .pt _, _, _, h => by cases h
  | _ :: _, .pair _ _, _, _, h => by cases h
  | _ :: _, .fn _ _, _, _, h => by cases h
theorem upB_out : ∀ (b : List Bk) (s : Nat → Slot) (n : Nat), (∀ y ∈ b, y.n ≠ n) → updAll s (b.map Bk.up) n = s n
  | [], _, _, _ => rfl
  | y :: b, s, n, h => by
    show updAll (slotSet s y.n _) (b.map Bk.up) n = _
    rw [upB_out b _ n fun z hz => h z (List.mem_cons_of_mem _ hz)]
    simp [slotSet, beq_ne (Ne.symm (h y List.mem_cons_self))]
theorem upB_in : ∀ (b : List Bk) (s : Nat → Slot) (y : Bk), b.Pairwise (fun x y => x.n ≠ y.n ∧ x.k ≠ y.k) → y ∈ b → updAll s (b.map Bk.up) y.n = .live y.kv (y.ver + 1) (y.nver + 1)
  | z :: b, s, y, hp, hy => by
    rw [List.pairwise_cons] at hp
    show updAll (slotSet s z.n (.live z.kv (z.ver + 1) (z.nver + 1))) (b.map Bk.up) y.n = _
    rcases List.mem_cons.1 hy with rfl | hy
    · rw [upB_out b _ _ fun z hz => (hp.1 z hz).1.symm]
      simp [slotSet]
    · exact upB_in b _ y hp.2 hy
theorem deadIf_fst (b : List Bk) (z : Nat × KV) : (deadIf b z).1 = z.1 := by
  unfold deadIf
  cases b.any (fun y => Nat.beq y.k z.1) <;> rfl
theorem deadIf_out {b : List Bk} {z : Nat × KV} (h : ∀ y ∈ b, y.k ≠ z.1) : deadIf b z = z := by
  unfold deadIf
  have : b.any (fun y => Nat.beq y.k z.1) = false := by
    rw [List.any_eq_false]
    intro y hy
    rw [beq_ne (h y hy)]
    simp
  rw [this]; rfl
theorem deadIf_in {b : List Bk} {z : Nat × KV} {y : Bk} (hy : y ∈ b) (h : y.k = z.1) : (deadIf b z).2 = ⟨.sl .unit, ([] : List (D .unit)), .ro (deadL b)⟩ := by
  unfold deadIf
  have : b.any (fun y => Nat.beq y.k z.1) = true := List.any_eq_true.2 ⟨y, hy, by rw [h]; exact beq_self _⟩
  rw [this]; rfl
end Go.Proofs.YthkdkojfahaeaaaGreat.Eng
/- The state behind a call. No condition. -/
set_option linter.unusedSectionVars false
set_option linter.unusedVariables false
namespace Go.Proofs.YthkdkojfahaeaaaGreat.Eng
variable [Tys] [Rb] [Cx]
variable {F : Fr} {σ σ' : St} {a : Act} {w w' : World} {μ : Nat → Value} {own : Nat → Blk} {s : Nat → Slot} {C C' : Wd}
theorem named_pair {t ts : Ty} (r : D (.pair t ts)) (o : Ow) (n0 : Nat) {v : Value} {hds : List Value} {S1 S2 : Blk} (c : Wd) (h1 : KT c t o.fst r.1 v S1) (h2 : KTs c ts o.snd r.2 hds S2) (hs : ∀ m, n0 ≤ m → m < (unfV (.pair t ts) r o n0).2.2.2 → ¬ o.says m) (hd : ∀ b, S1 b → ¬ S2 b) :
    ∃ μ2 own2, Named c o (fun b => S1 b ∨ S2 b) n0 (unfV (.pair t ts) r o n0).2.1 (unfV (.pair t ts) r o n0).2.2.1 (unfV (.pair t ts) r o n0).2.2.2
      (fun c' => KT c' t (unfV (.pair t ts) r o n0).2.1.fst (unfV (.pair t ts) r o n0).1.1 v noBlk ∧ KTs c' ts (unfV (.pair t ts) r o n0).2.1.snd (unfV (.pair t ts) r o n0).1.2 hds noBlk) μ2 own2 := by
  simp only [unfV] at hs ⊢
  have le2 := unfV_le ts r.2 o.snd (unfV t r.1 o.fst n0).2.2.2
  have le1 := unfV_le t r.1 o.fst n0
  obtain ⟨μ1, own1, k1⟩ := unf_KT t r.1 o.fst n0 v S1 c h1 (fun m h1 h2 h => hs m h1 (by omega) (Ow.says_fst h))
  have h2' : KTs (c.mu μ1) ts o.snd r.2 hds S2 := KTs_keep _ _ _ _ _ (keeps_mu fun m hm => k1.mu m (by
    by_cases h : m < n0
    · exact .inl h
    · refine .inr (Nat.le_of_not_lt fun h' => hs m (by omega) (by omega) (Ow.says_snd hm)))) h2
  obtain ⟨μ2, own2, k2⟩ := unf_KTs ts r.2 o.snd (unfV t r.1 o.fst n0).2.2.2 hds S2 (c.mu μ1) h2' (fun m h1 h2 h => hs m (by omega) h2 (Ow.says_snd h))
  have hs1 : ∀ m, n0 ≤ m → m < (unfV ts r.2 o.snd (unfV t r.1 o.fst n0).2.2.2).2.2.2 → ¬ o.fst.says m := fun m h1 h2 h => hs m h1 h2 (Ow.says_fst h)
  refine ⟨μ2, _, (k1.comb k2 hs1 (fun _ => Ow.says_fst) (fun _ => Ow.says_snd) (fun _ h => .inl h) (fun _ h => .inr h) hd fun h k => ?_).imp fun k => ?_⟩
  · exact KT_keep (c := c.mu μ1) (c' := (c.mu μ1).mu μ2) _ _ _ _ _ (keeps_mu fun m hm => h m (k1.out hs1 m hm)) k
  · exact ⟨by rw [Ow.fst_mk]; exact k.1, by rw [Ow.snd_mk]; exact k.2⟩
def Src (b : List Bk) (n0 n1 : Nat) (m k : Nat) : Prop := ((n0 ≤ m ∧ m < n1) ∧ k = m ∧ ∀ y ∈ b, y.k ≠ m) ∨ (¬ (n0 ≤ m ∧ m < n1) ∧ ∃ y ∈ b, y.n = m ∧ k = y.k)
def Old (b : List Bk) (n0 n1 : Nat) (m : Nat) : Prop := ¬ (n0 ≤ m ∧ m < n1) ∧ ∀ y ∈ b, y.n ≠ m
def ownC (b : List Bk) (n0 n1 : Nat) (own own2 : Nat → Blk) : Nat → Blk := fun m j => (∃ k, Src b n0 n1 m k ∧ own2 k j) ∨ (Old b n0 n1 m ∧ own m j)
section
variable {b : List Bk} {n0 n1 : Nat}
theorem Apart.n (h : Apart b) : ∀ {x y : Bk}, x ∈ b → y ∈ b → x.n = y.n → x = y := by
  induction b with
  | nil => intro x y hx; cases hx
  | cons z b ih =>
    rw [Apart, List.pairwise_cons] at h
    intro x y hx hy e
    rcases List.mem_cons.1 hx with e1 | hx1 <;> rcases List.mem_cons.1 hy with e2 | hy1
    · exact e1.trans e2.symm
    · exact absurd (e1 ▸ e) (h.1 y hy1).1
    · exact absurd (e2 ▸ e.symm) (h.1 x hx1).1
    · exact ih h.2 hx1 hy1 e
theorem Apart.k (h : Apart b) : ∀ {x y : Bk}, x ∈ b → y ∈ b → x.k = y.k → x = y := by
  induction b with
  | nil => intro x y hx; cases hx
  | cons z b ih =>
    rw [Apart, List.pairwise_cons] at h
    intro x y hx hy e
    rcases List.mem_cons.1 hx with e1 | hx1 <;> rcases List.mem_cons.1 hy with e2 | hy1
    · exact e1.trans e2.symm
    · exact absurd (e1 ▸ e) (h.1 y hy1).2
    · exact absurd (e2 ▸ e.symm) (h.1 x hx1).2
    · exact ih h.2 hx1 hy1 e
theorem Src.once (h : Apart b) {m k k' : Nat} (h1 : Src b n0 n1 m k) (h2 : Src b n0 n1 m k') : k = k' := by
  rcases h1 with ⟨r1, rfl, _⟩ | ⟨r1, y, hy, e, rfl⟩ <;> rcases h2 with ⟨r2, rfl, _⟩ | ⟨r2, y', hy', e', rfl⟩
  · rfl
  · exact absurd r1 r2
  · exact absurd r2 r1
  · rw [h.n hy hy' (e.trans e'.symm)]
theorem Src.inj (h : Apart b) {m m' k : Nat} (h1 : Src b n0 n1 m k) (h2 : Src b n0 n1 m' k) : m = m' := by
  rcases h1 with ⟨r1, e1, d1⟩ | ⟨r1, y, hy, e, e1⟩ <;> rcases h2 with ⟨r2, e2, d2⟩ | ⟨r2, y', hy', e', e2⟩
  · exact e1.symm.trans e2
  · exact absurd (e2.symm.trans e1) (d1 y' hy')
  · exact absurd (e1.symm.trans e2) (d2 y hy)
  · have := h.k hy hy' (e1.symm.trans e2)
    subst this
    exact e.symm.trans e'
theorem Src.old {m k : Nat} (h1 : Src b n0 n1 m k) : ¬ Old b n0 n1 m := fun h2 => by
  rcases h1 with ⟨r1, _⟩ | ⟨r1, y, hy, e, _⟩
  · exact h2.1 r1
  · exact h2.2 y hy e
theorem ownC_src (h : Apart b) {own2 : Nat → Blk} {m k : Nat} (h1 : Src b n0 n1 m k) : ownC b n0 n1 own own2 m = own2 k :=
  funext fun j => propext ⟨fun hj => by
    rcases hj with ⟨k', h2, hj⟩ | ⟨h2, _⟩
    · rw [h1.once h h2]; exact hj
    · exact absurd h2 h1.old, fun hj => .inl ⟨k, h1, hj⟩⟩
theorem ownC_old {own2 : Nat → Blk} {m : Nat} (h1 : Old b n0 n1 m) : ownC b n0 n1 own own2 m = own m :=
  funext fun j => propext ⟨fun hj => by
    rcases hj with ⟨k', h2, hj⟩ | ⟨_, hj⟩
    · exact absurd h1 h2.old
    · exact hj, fun hj => .inr ⟨h1, hj⟩⟩
end
theorem back_inv {fz : List Nat} (I : Inv F σ a w μ own) (hs : Under s σ.sto) {gs : List Nat} {ns : List KV} {vsio : List Value} {ls : List (List (Nat × Nat))} {ro : Ow} {t ts : Ty} {r : D (.pair t ts)} {d : Nat} {e : Eff} (hgs : ∀ n ∈ gs, (σ.sto n).lives)
    (he : callBack d fz s gs ls ns ro (.pair t ts) r = some e) (hfz : ∀ n ∈ fz, σ.sto n ≠ .fresh) (hro : ro.allL parOnly = true) (hls : ∀ L ∈ ls, ∀ l ∈ L, known σ.sto l) {v : Value} {S1 S2 : Blk} {c0 : Wd} (hc0 : c0.w = w') (hc0mu : ∀ n, isTok n = true → c0.μ n = muZ fz μ n) (hc0ok : ∀ L, parOnly L = true → c0.ok L)
    (hc0ro : ∀ L b, parOnly L = true → c0.RO L b → ∃ l ∈ L, ∃ L', ls[l.1 - PAR]? = some L' ∧ (ctx σ.sto w μ own).RO L' b) (h1 : KT c0 t ro.fst r.1 v S1) (h2 : KTs c0 ts ro.snd r.2 vsio S2) (hio : AllV (ctx σ.sto w μ own) σ.sto ns vsio) (hd : ∀ b, S1 b → ¬ S2 b)
    (hS : ∀ b, S1 b ∨ S2 b → b < w'.heap.size ∧ (ownBy own gs b ∨ w.heap.size ≤ b)) (hos : w'.os = w.os ∧ w'.tape = w.tape ∧ w'.output = w.output) (hsz : w.heap.size ≤ w'.heap.size)
    (hfr : ∀ b, b < w.heap.size → ¬ ownBy own gs b → w'.heap[b]? = w.heap[b]?) {dst : Option Nat} (hf : ∀ d, dst = some d → d < a.tmps.size ∧ d ∉ F.ps) (ha : e.apply dst σ = some σ') : InvE F σ' (a.put dst v) w' := by
  have hall0 : (ro.mapL (lendL ls)).allL (fun _ => true) = true := allL_mapL (fun _ _ => rfl) hro
  have hno : ∀ m, ((ro.mapL (lendL ls)).thw fz).says m → σ.sto m ≠ .fresh := fun m hm => by
    rcases thw_says hall0 hm with h | h
    · rw [(I.toks m h).1]; simp
    · exact hfz m h
  have hknown : ∀ l ∈ ((ro.mapL (lendL ls)).thw fz).lns, known σ.sto l := fun l hl => by
    rw [lns_thw] at hl
    obtain ⟨l', hl'⟩ := mapL_lns l hl
    obtain ⟨L, hL, hx⟩ := lendL_mem hl'
    exact hls L hL l hx
  unfold callBack at he
  dsimp only at he
  split at he
  case h_2 => cases he
  rename_i b hb
  cases hap : apartB b with
  | false => rw [hap] at he; cases he
  | true =>
  rw [hap] at he
  obtain rfl := Option.some.inj he
  have hfull := unfV_lns (.pair t ts) r ((ro.mapL (lendL ls)).thw fz) (nm d 0)
  -- the state behind
  simp only [Eff.apply] at ha
  cases hall : (List.all ((unfV (.pair t ts) r ((ro.mapL (lendL ls)).thw fz) (nm d 0)).2.2.1.map (deadIf b)) fun z => Nat.blt z.1 PAR && isFresh (σ.sto z.1)) with
  | false => rw [hall] at ha; cases ha
  | true =>
  rw [hall] at ha
  simp only [cond_true] at ha
  have ea : ∀ (s0 : Nat → Slot) (l0 : List (Nat × KV)), List.foldl (fun s z => slotSet s z.1 (.live z.2 0 0)) s0 l0 = addNew s0 l0 := fun _ _ => rfl
  simp only [ea] at ha
  have Ln : Lends c0 ((mid σ.sto (addNew (updAll σ.sto (goneAll gs ++ b.map Bk.up)) ((unfV (.pair t ts) r ((ro.mapL (lendL ls)).thw fz) (nm d 0)).2.2.1.map (deadIf b))) w w' μ own).mu (muZ fz μ)) parOnly (lendL ls) := by
    refine ⟨hc0.symm, hc0ok, fun L j hL hj => ?_, fun n hn => (hc0mu n hn).symm⟩
    obtain ⟨l, hl, L', hL', hR⟩ := hc0ro L j hL hj
    refine ctx_mono L' _ j (fun x hx => ?_) hR
    refine List.mem_flatMap.2 ⟨l, hl, ?_⟩
    rw [List.getD_eq_getElem?_getD, hL']
    exact hx
  obtain ⟨μ2, own2, N⟩ := named_pair r ((ro.mapL (lendL ls)).thw fz) (nm d 0) (mid σ.sto (addNew (updAll σ.sto (goneAll gs ++ b.map Bk.up)) ((unfV (.pair t ts) r ((ro.mapL (lendL ls)).thw fz) (nm d 0)).2.2.1.map (deadIf b))) w w' μ own)
    (by rw [thw_fst, mapL_fst]; refine KT_thw ?_ (KT_map Ln (allL_fst hro) h1); rw [← mapL_fst]; exact allL_fst hall0)
    (by rw [thw_snd, mapL_snd]; refine KTs_thw _ _ _ _ _ ?_ (KTs_map Ln _ _ _ _ _ (allL_snd hro) h2); rw [← mapL_snd]; exact allL_snd hall0)
    (fun m h1 h2 hm => by
      obtain ⟨x, hx, rfl⟩ := unfV_full _ _ _ _ m h1 h2
      refine hno _ hm ?_
      have := List.all_eq_true.1 hall _ (List.mem_map.2 ⟨x, hx, rfl⟩)
      rw [Bool.and_eq_true, deadIf_fst] at this
      have h2 := this.2
      unfold isFresh at h2
      split at h2
      · assumption
      · cases h2) hd
  clear Ln
  generalize unfV (.pair t ts) r ((ro.mapL (lendL ls)).thw fz) (nm d 0) = y at hb hall ha N hfull
  obtain ⟨v', o', l, n1⟩ := y
  dsimp only at hb hall ha N hfull
  generalize nm d 0 = n0 at N
  have b1 := apartB_spec hap
  obtain ⟨b2, b3⟩ := backGo_spec _ _ _ _ hb
  simp only [List.all_eq_true, Bool.and_eq_true, List.mem_map] at hall
  have hfresh : ∀ x ∈ l, x.1 < PAR ∧ σ.sto x.1 = .fresh := fun x hx => by
    obtain ⟨h1, h2⟩ := hall _ ⟨x, hx, rfl⟩
    rw [deadIf_fst] at h1 h2
    refine ⟨by simpa using h1, ?_⟩
    unfold isFresh at h2
    split at h2
    · assumption
    · cases h2
  generalize hs'e : addNew (updAll σ.sto (goneAll gs ++ b.map Bk.up)) (l.map (deadIf b)) = s' at N ha
  have hin : ∀ x ∈ l, s' x.1 = .live (deadIf b x).2 0 0 := fun x hx => by
    have := addNew_in (l.map (deadIf b)) (updAll σ.sto (goneAll gs ++ b.map Bk.up)) (deadIf b x) (by
      rw [List.pairwise_map]
      exact N.once.imp fun h => by rw [deadIf_fst, deadIf_fst]; exact h) (List.mem_map.2 ⟨x, hx, rfl⟩)
    rw [deadIf_fst] at this
    rw [← hs'e]; exact this
  have hout : ∀ m, ¬ (n0 ≤ m ∧ m < n1) → s' m = updAll (updAll σ.sto (goneAll gs)) (b.map Bk.up) m := fun m hm => by
    rw [← hs'e, addNew_out _ _ m fun x hx e => ?_, updAll_append]
    obtain ⟨z, hz, rfl⟩ := List.mem_map.1 hx
    rw [deadIf_fst] at e
    exact hm (e ▸ N.range z hz)
  have frσ : ∀ m, n0 ≤ m ∧ m < n1 → m < PAR ∧ σ.sto m = .fresh := fun m hm => by
    obtain ⟨x, hx, rfl⟩ := N.full m hm.1 hm.2
    exact hfresh x hx
  have nrng : ∀ m, σ.sto m ≠ .fresh → ¬ (n0 ≤ m ∧ m < n1) := fun m h hr => h (frσ m hr).2
  have hbl : ∀ y ∈ b, ∃ kv, σ.sto y.n = .live kv y.ver y.nver := fun y hy => by
    obtain ⟨_, kv, h⟩ := b2 y hy
    exact ⟨kv, hs _ _ _ _ h⟩
  have hB : ∀ y ∈ b, s' y.n = .live y.kv (y.ver + 1) (y.nver + 1) := fun y hy => by
    obtain ⟨kv, h⟩ := hbl y hy
    rw [hout _ (nrng _ (by rw [h]; simp)), upB_in _ _ _ b1 hy]
  have hold : ∀ m, Old b n0 n1 m → s' m = if m ∈ gs then .gone else σ.sto m := fun m hm => by
    rw [hout m hm.1, upB_out _ _ _ hm.2, updAll_gone]
  have ksrc : ∀ {m k}, Src b n0 n1 m k → n0 ≤ k ∧ k < n1 := fun {m k} h => by
    rcases h with ⟨r1, rfl, _⟩ | ⟨_, y, hy, _, rfl⟩
    · exact r1
    · exact N.range _ (b2 y hy).1
  have kind : ∀ m kv p q, s' m = .live kv p q → (∃ k, Src b n0 n1 m k ∧ (k, kv) ∈ l ∧ (σ.sto m = .fresh ∨ ∃ kv0 p0 q0, σ.sto m = .live kv0 p0 q0 ∧ p0 < p ∧ q0 < q)) ∨
      ((n0 ≤ m ∧ m < n1) ∧ (∃ y ∈ b, y.k = m) ∧ kv = ⟨.sl .unit, ([] : List (D .unit)), .ro (deadL b)⟩) ∨ (Old b n0 n1 m ∧ m ∉ gs ∧ σ.sto m = .live kv p q) := by
    intro m kv p q hm
    by_cases hr : n0 ≤ m ∧ m < n1
    · obtain ⟨x, hx, rfl⟩ := N.full m hr.1 hr.2
      rw [hin x hx] at hm
      by_cases hk : ∃ y ∈ b, y.k = x.1
      · obtain ⟨y, hy, e⟩ := hk
        refine .inr (.inl ⟨hr, ⟨y, hy, e⟩, ?_⟩)
        rw [deadIf_in hy e] at hm
        cases hm; rfl
      · have hk' : ∀ y ∈ b, y.k ≠ x.1 := fun y hy e => hk ⟨y, hy, e⟩
        rw [deadIf_out hk'] at hm
        cases hm
        exact .inl ⟨x.1, .inl ⟨hr, rfl, hk'⟩, hx, .inl (hfresh x hx).2⟩
    · by_cases hy : ∃ y ∈ b, y.n = m
      · obtain ⟨y, hy, rfl⟩ := hy
        rw [hB y hy] at hm
        cases hm
        obtain ⟨kv0, h⟩ := hbl y hy
        exact .inl ⟨y.k, .inr ⟨hr, y, hy, rfl, rfl⟩, (b2 y hy).1, .inr ⟨kv0, _, _, h, Nat.lt_succ_self _, Nat.lt_succ_self _⟩⟩
      · have ho : Old b n0 n1 m := ⟨hr, fun y hy' e => hy ⟨y, hy', e⟩⟩
        rw [hold m ho] at hm
        split at hm
        · cases hm
        · exact .inr (.inr ⟨ho, by assumption, hm⟩)
  have mu2 : ∀ m, ¬ (n0 ≤ m ∧ m < n1) → μ2 m = μ m := fun m h => N.mu m (by omega)
  have upgs : ∀ n ∈ gs, ∃ kv p q, σ.sto n = .live kv p q ∧ (s' n = .gone ∨ ∃ kv' p' q', s' n = .live kv' p' q' ∧ p < p' ∧ q < q') := fun n hn => by
    obtain ⟨kv, p, q, e⟩ := hgs n hn
    refine ⟨kv, p, q, e, ?_⟩
    have hr := nrng n (by rw [e]; simp)
    by_cases hy : ∃ y ∈ b, y.n = n
    · obtain ⟨y, hy, rfl⟩ := hy
      obtain ⟨kv0, h⟩ := hbl y hy
      rw [h] at e
      cases e
      exact .inr ⟨_, _, _, hB y hy, Nat.lt_succ_self _, Nat.lt_succ_self _⟩
    · exact .inl (by rw [hold n ⟨hr, fun y hy' e => hy ⟨y, hy', e⟩⟩, if_pos hn])
  have hsub : ∀ k j, own2 k j → j < w'.heap.size ∧ (ownBy own gs j ∨ w.heap.size ≤ j) := fun k j h => hS j (N.sub k j h)
  have T : Turn σ.sto s' w w' μ μ2 own (ownC b n0 n1 own own2) := by
    refine ⟨hsz, fun n hn => mu2 n (nrng n hn), fun n hn => ?_, fun j hj hch => ?_, fun n kv' p' q' hn j hj ho => ?_⟩
    · have hr := nrng n hn
      by_cases hy : ∃ y ∈ b, y.n = n
      · obtain ⟨y, hy, rfl⟩ := hy
        obtain ⟨kv0, h⟩ := hbl y hy
        exact .inr (.inr ⟨_, _, _, _, _, _, h, hB y hy, Nat.lt_succ_self _, Nat.le_succ _⟩)
      · rw [hold n ⟨hr, fun y hy' e => hy ⟨y, hy', e⟩⟩]
        split
        · exact .inr (.inl rfl)
        · exact .inl rfl
    · have hg : ownBy own gs j := Classical.byContradiction fun h => hch (hfr j hj h)
      obtain ⟨n, hn, ho⟩ := hg
      obtain ⟨kv, p, q, e, h⟩ := upgs n hn
      exact ⟨n, kv, p, q, e, ho, h.imp id fun ⟨kv', p', q', h1, h2, h3⟩ => ⟨kv', p', q', h1, h2, .inl h3⟩⟩
    · rcases ho with ⟨k, hk, ho⟩ | ⟨hk, ho⟩
      · obtain ⟨m, hm, hom⟩ := (hsub k j ho).2.resolve_right (by omega)
        obtain ⟨kv, p, q, e, h⟩ := upgs m hm
        exact ⟨m, kv, p, q, e, hom, .inr h⟩
      · rcases kind n kv' p' q' hn with ⟨k, h, _⟩ | ⟨h, _⟩ | ⟨_, _, h⟩
        · exact absurd hk h.old
        · exact absurd h hk.1
        · exact ⟨n, _, _, _, h, ho, .inl rfl⟩
  have keep : ∀ {S' : Blk} {M : Nat → Prop} {L : Nat × Nat → Prop}, (∀ x, L x → known σ.sto x) → Keeps ((mid σ.sto s' w w' μ own).mu μ2) (ctx s' w' μ2 (ownC b n0 n1 own own2)) S' M L := by
    intro S' M L hL
    refine ⟨fun _ _ => rfl, fun ls _ h => h, fun ls b hls hok hro => ⟨?_, rfl⟩, fun _ _ => rfl⟩
    exact ((T.keeps (S := noBlk) (N := fun _ => False) (L := L) I.low (fun _ h => h.elim) (fun _ h => h.elim) hL).ro ls b hls hok hro).1
  have saysl : ∀ m, (∃ y ∈ l, y.1 = m) → s' m ≠ .fresh := fun m ⟨y, hy, e⟩ => by rw [← e, hin y hy]; simp
  have old_live : ∀ m kv p q, s' m = .live kv p q → Old b n0 n1 m → m ∉ gs ∧ σ.sto m = .live kv p q := fun m kv p q hm ho => by
    rcases kind m kv p q hm with ⟨k, h, _⟩ | ⟨h, _⟩ | ⟨_, h⟩
    · exact absurd ho h.old
    · exact absurd h ho.1
    · exact h
  have apart : ∀ m, (s' m).lives → Old b n0 n1 m → ∀ k j, own2 k j → ¬ own m j := fun m ⟨kv, p, q, hm⟩ ho k j hk hj => by
    obtain ⟨h1, h2⟩ := old_live m kv p q hm ho
    have hlt := (I.bound m kv p q h2 j hj).1
    obtain ⟨g, hg, hog⟩ := (hsub k j hk).2.resolve_right (by omega)
    exact I.ents.disj g m (hgs g hg) ⟨_, _, _, h2⟩ (fun e => h1 (e ▸ hg)) j hog hj
  have I' : Inv F ⟨σ.env, s'⟩ a w' μ2 (ownC b n0 n1 own own2) := by
    refine I.turn T hos (fun n hn => ?_) (fun n kv p q hn he => ?_) (fun n kv p q hn he => ?_) (fun n m hn hm hne j hj hj' => ?_)
    · have hr : ¬ (n0 ≤ n ∧ n < n1) := fun hr => by have := (frσ n hr).1; omega
      have hf := I.low n hn
      rw [hold n ⟨hr, fun y hy e => by obtain ⟨kv, h⟩ := hbl y hy; rw [e, hf] at h; cases h⟩, if_neg, hf]
      intro hg
      obtain ⟨_, _, _, e⟩ := hgs n hg
      rw [hf] at e; cases e
    · rcases kind n kv p q hn with ⟨k, h, _, h3⟩ | ⟨h, _⟩ | ⟨h, _⟩
      · exfalso
        rw [hn] at he
        rcases h3 with h3 | ⟨kv0, p0, q0, h3, h4, _⟩
        · rw [h3] at he; cases he
        · rw [h3] at he; cases he; omega
      · exfalso
        rw [hn, (frσ n h).2] at he; cases he
      · exact ownC_old h
    · rcases kind n kv p q hn with ⟨k, h, hkl, _⟩ | ⟨hr, ⟨y, hy, hyk⟩, rfl⟩ | ⟨_, _, h⟩
      · obtain ⟨k1, k2⟩ := N.K _ hkl
        rw [ownC_src b1 h]
        have hμ : μ2 n = μ2 k := by
          rcases h with ⟨_, rfl, _⟩ | ⟨hr, y, hy, rfl, rfl⟩
          · rfl
          · rw [mu2 _ hr]; exact (b3 _ _ _ _ _ _ hio N.here.2 y hy).symm
        rw [hμ]
        refine ⟨K_keep _ _ _ _ _ (keep fun z hz => hknown z (hfull.2 _ hkl z hz)) k1, fun j hj => ⟨(hsub k j hj).1, ?_⟩, fun m hm => ?_, fun z hz => known_turn T (hknown z (hfull.2 _ hkl z hz))⟩
        · rcases (hsub k j hj).2 with ⟨g, hg, hog⟩ | h
          · obtain ⟨kv0, p0, q0, e0⟩ := hgs g hg
            exact (I.bound g _ _ _ e0 j hog).2
          · exact .inr (Nat.le_trans I.size h)
        · rcases k2 m hm with h | h
          · exact fresh_turn T (hno m h)
          · exact saysl m h
      · obtain ⟨x, hx, hxn⟩ := N.full n hr.1 hr.2
        have hone := K_one _ _ _ _ _ (N.K x hx).1 _ (List.mem_singleton.2 rfl)
        rw [hxn] at hone
        have hown : ∀ j, ¬ ownC b n0 n1 own own2 n j := fun j hj => by
          rcases hj with ⟨k, hk, _⟩ | ⟨hk, _⟩
          · rcases hk with ⟨_, rfl, hk⟩ | ⟨hk, _⟩
            · exact hk y hy hyk
            · exact hk hr
          · exact hk.1 hr
        cases b with
        | nil => cases hy
        | cons y0 bs =>
          obtain ⟨kv0, e0⟩ := hbl y0 List.mem_cons_self
          have e1 := hB y0 List.mem_cons_self
          refine ⟨⟨μ2 n, rfl, hone, fun hok => ?_⟩, fun j hj => absurd hj (hown j), fun m hm => hm.elim, fun z hz => ?_⟩
          · exfalso
            have hok : okLoans s' [(y0.n, 2 * y0.ver)] = true := hok
            simp only [okLoans, List.all_cons, List.all_nil, Bool.and_true] at hok
            obtain ⟨kv1, p1, q1, e2, h2⟩ := okLoan_live hok rfl (Nat.lt_of_not_le fun h => by rw [I.low _ h] at e0; cases e0)
            rw [e1] at e2
            cases e2
            dsimp only at h2
            omega
          · have hz : z ∈ [(y0.n, 2 * y0.ver)] := hz
            obtain rfl := List.mem_singleton.1 hz
            refine .inr ?_
            show (s' y0.n).knows (2 * y0.ver)
            rw [e1]
            exact ⟨fun _ => by omega, fun h => by omega⟩
      · exact absurd (hn.trans h.symm) he
    · rcases hj with ⟨k, hk, hj⟩ | ⟨hk, hj⟩ <;> rcases hj' with ⟨k', hk', hj'⟩ | ⟨hk', hj'⟩
      · exact N.disj k k' (ksrc hk).1 (ksrc hk).2 (ksrc hk').1 (ksrc hk').2 (fun e => hne (hk.inj b1 (e ▸ hk'))) j hj hj'
      · exact apart m hm hk' k j hj hj'
      · exact apart n hn hk k' j hj' hj
      · obtain ⟨kv1, p1, q1, e1⟩ := hn
        obtain ⟨kv2, p2, q2, e2⟩ := hm
        exact I.ents.disj n m ⟨_, _, _, (old_live _ _ _ _ e1 hk).2⟩ ⟨_, _, _, (old_live _ _ _ _ e2 hk').2⟩ hne j hj hj'
  cases dst with
  | none =>
    obtain rfl := Option.some.inj ha
    exact ⟨μ2, _, I'⟩
  | some d1 =>
    obtain rfl := Option.some.inj ha
    refine ⟨μ2, _, I'.put (kv := some _) (hf d1 rfl) fun kv' hk => ?_⟩
    obtain rfl := Option.some.inj hk
    refine ⟨KT_keep _ _ _ _ _ (keep fun z hz => hknown z (hfull.1 z (Ow.lns_fst hz))) N.here.1, fun m hm => ?_, fun z hz => known_turn T (hknown z (hfull.1 z (Ow.lns_fst hz)))⟩
    rcases N.says m (Ow.says_fst hm) with h | h
    · exact fresh_turn T (hno m h)
    · exact saysl m h
end Go.Proofs.YthkdkojfahaeaaaGreat.Eng
/- Which operations are calls. No condition. -/
set_option linter.unusedSectionVars false
set_option linter.unusedVariables false
namespace Go.Proofs.YthkdkojfahaeaaaGreat.Eng
section
variable [Tys] [Cx]
variable {s : Nat → Slot} {env : Nat → Option KV} {d : Nat} {rid : Rid}
def OpR.isCall : OpR → Bool
  | .call .. => true
  | _ => false
theorem nc_cond {b : Bool} {x y : OpR} (hx : x.isCall = false) (hy : y.isCall = false) : (bif b then x else y).isCall = false := by cases b <;> assumption
theorem nc_ofOpt {x : Option KV} : (ofOpt x).isCall = false := by cases x <;> rfl
theorem nc_pick {c x y : Option KV} : (pickR c x y).isCall = false := by
  unfold pickR
  repeat' split
  all_goals first | rfl | exact nc_ofOpt
theorem nc_build {t : Ty} {ps : List (Nat × Operand)} : (buildR d env t ps).isCall = false := by
  unfold buildR
  repeat' split
  all_goals rfl
theorem nc_buildSlice {t : Ty} {len : Nat} {ps : List (Nat × Operand)} : (buildSliceR d env s t len ps).isCall = false := by
  unfold buildSliceR
  split
  · refine nc_cond ?_ rfl
    repeat' split
    all_goals rfl
  · rfl
theorem nc_make {e : Ty} {eb : Nat} {l c : KV} : (makeSliceR d e eb l c).isCall = false := by
  unfold makeSliceR
  repeat' split
  all_goals first | rfl | exact nc_cond rfl rfl
theorem nc_load {t : Ty} {a : KV} : (loadR s t a).isCall = false := by
  unfold loadR
  repeat' split
  all_goals try rfl
  all_goals refine nc_cond ?_ rfl
  all_goals first | rfl | (split <;> rfl)
theorem nc_store {a x : KV} : (storeR s a x).isCall = false := by
  unfold storeR
  repeat' split
  all_goals try rfl
  all_goals exact nc_cond rfl rfl
theorem nc_nil {a : KV} : (nilCheckR s a).isCall = false := by
  unfold nilCheckR
  repeat' split
  all_goals first | rfl | exact nc_cond rfl rfl
theorem nc_int {op : BinOp} {k : IntKind} {x y : Int} : (intOp op k x y).isCall = false := by cases op <;> rfl
theorem nc_str {op : BinOp} {x y : ByteArray} : (strOp op x y).isCall = false := by cases op <;> rfl
theorem nc_bin {t : Option Ty} {op : BinOp} {x y : KV} : (binOpR t op x y).isCall = false := by
  unfold binOpR
  repeat' split
  all_goals first | rfl | exact nc_int | exact nc_str
theorem nc_un {op : UnOp} {x : KV} : (unOpR op x).isCall = false := by
  unfold unOpR
  repeat' split
  all_goals rfl
theorem nc_conv {t u : Ty} {x : KV} : (convR s t u x).isCall = false := by
  unfold convR bytesR
  repeat' split
  all_goals rfl
theorem nc_slice {x : KV} {lo hi : Option Int} : (sliceR s x lo hi).isCall = false := by
  unfold sliceR
  repeat' split
  all_goals first | rfl | exact nc_cond rfl rfl
theorem nc_take {t : Ty} {n off rs i : Nat} : (takeR d s t n off rs i).isCall = false := by
  unfold takeR
  repeat' split
  all_goals rfl
theorem nc_hole {t : Ty} {n off rs i : Nat} : (holeR d s t n off rs i).isCall = false := by
  unfold holeR
  split
  · refine nc_cond ?_ rfl
    dsimp only
    split <;> rfl
  · rfl
theorem nc_name {t : Ty} {n off : Nat} : (nameR d s t n off).isCall = false := by
  unfold nameR
  split
  · split
    · refine nc_cond ?_ rfl
      dsimp only
      split
      · split <;> rfl
      · rfl
    · rfl
  · rfl
theorem nc_loadT {t : Ty} {a : KV} {tk hl : Nat → Bool} : (loadT tk hl d s t a).isCall = false := by
  unfold loadT
  split
  · exact nc_cond nc_take (nc_cond nc_hole nc_load)
  · split
    · exact nc_name
    · exact nc_load
  · split
    · exact nc_name
    · exact nc_load
  · exact nc_load
theorem nc_sliceT {x : KV} {lo hi : Option Int} {tk : Nat → Bool} : (sliceT tk d s x lo hi).isCall = false := by
  unfold sliceT
  split
  · refine nc_cond ?_ (nc_cond ?_ nc_slice)
    · unfold cutR
      repeat' split
      all_goals rfl
    · unfold gapR
      repeat' split
      all_goals rfl
  · exact nc_slice
theorem nc_fieldAddr {t : Ty} {x : KV} {f : Nat} : (fieldAddrR t x f s).isCall = false := by
  unfold fieldAddrR
  repeat' split
  all_goals try rfl
  all_goals refine nc_cond ?_ rfl
  all_goals repeat' split
  all_goals rfl
theorem nc_field {x : KV} {f : Nat} : (fieldR x f).isCall = false := by
  unfold fieldR
  repeat' split
  all_goals rfl
theorem nc_indexAddr {x y : KV} : (indexAddrR s x y).isCall = false := by
  unfold indexAddrR
  repeat' split
  all_goals first | rfl | exact nc_cond rfl rfl
theorem nc_index {x y : KV} : (indexR x y).isCall = false := by
  unfold indexR
  repeat' split
  all_goals rfl
theorem nc_append {c : Ty} {eb : Nat} {x y : KV} : (appendR d s c eb x y).isCall = false := by
  unfold appendR
  dsimp only
  repeat' split
  all_goals try rfl
  all_goals refine nc_cond rfl ?_
  all_goals first | rfl | (split <;> rfl)
theorem nc_mm {f : Int → Int → Int} {x y : KV} : (mm f x y).isCall = false := by
  unfold mm
  repeat' split
  all_goals rfl
theorem nc_appendT {c : Ty} {eb : Nat} {x y : KV} : (appendT d s c eb x y).isCall = false := by
  unfold appendT
  split
  · split
    · unfold appendC
      repeat' split
      all_goals try rfl
      all_goals exact nc_cond rfl rfl
    · rfl
  · exact nc_append
theorem opR0_call {o : Oper} {f : Nat} {args : List KV} {rt : Ty} {ro : Ow} {kk : D rt → Option Eff} (h : opR0 rid env s o = .call f args rt ro kk) :
    ∃ c x f0 as, o.op = .call c ∧ c.callee = .value x ∧ fnOf (val env x none) = some f0 ∧ argVals env c.args.toList c.argTypes.toList = some as ∧ callR (nbase rid o) (fzAt rid.fz o s) s f0 as = .call f args rt ro kk := by
  have nc : ∀ {x : OpR}, x = .call f args rt ro kk → x.isCall = false → False := fun h1 h2 => by rw [h1] at h2; cases h2
  unfold opR0 at h
  dsimp only at h
  split at h
  case h_21 c hop =>
    split at h
    case h_5 x hc =>
      split at h
      · rename_i f0 as hx has
        exact ⟨c, x, f0, as, hop, hc, hx, has, h⟩
      · cases h
    all_goals exfalso
    all_goals repeat' split at h
    all_goals first | (cases h; done) | exact nc h nc_ofOpt | exact nc h nc_mm | exact nc h (nc_cond nc_appendT rfl)
  all_goals exfalso
  all_goals repeat' split at h
  all_goals first | (cases h; done) | exact nc h nc_ofOpt | exact nc h nc_pick | exact nc h nc_build | exact nc h nc_buildSlice | exact nc h nc_loadT | exact nc h nc_make | exact nc h nc_store | exact nc h nc_nil | exact nc h (by rw [OpR.hide_is, Bool.cond_self]; exact nc_bin) | exact nc h nc_un | exact nc h nc_conv | exact nc h nc_sliceT | exact nc h nc_fieldAddr | exact nc h nc_field | exact nc h nc_indexAddr | exact nc h nc_index | exact nc h (nc_cond rfl rfl)
end
end Go.Proofs.YthkdkojfahaeaaaGreat.Eng
/- Calls are as the oracle says. No condition. -/
set_option linter.unusedSectionVars false
set_option linter.unusedVariables false
namespace Go.Proofs.YthkdkojfahaeaaaGreat.Eng
section
variable [Tys] [Cx]
structure CallSem (f : Nat) (args : List KV) (rt : Ty) (ro : Ow) (r : D rt) : Prop where
  enter : ∀ vs w, (callFunc f vs).run Cx.P w = .ok (.enter f vs) w
  calls : ∀ (g : Sig), Cx.SG f = some g → ∀ (R : Rb) (w : World) (vs : List Value) (S : Blk), KTs (@ctx0 _ R w) (packA args).t (packA args).o (packA args).v vs S → (packA args).o.allL parOnly = true →
    (∀ b, S b → b < w.heap.size ∧ ∀ l, ¬ R.RB l b) → Calls Cx.P f vs.toArray w fun e w' => ∃ v, e = .returned v ∧ @Back _ R ⟨w, S, iosAt g.modes 0, fun p => vs.toArray.getD p undef⟩ rt ro r v w'
theorem fnOf_eval [Rb] {F : Fr} {σ : St} {a : Act} {w : World} {μ : Nat → Value} {own : Nat → Blk} {o : Oper} (I : Inv F σ a w μ own) {x : Operand} {f : Nat} (h : fnOf (val (envAt σ.env o) x none) = some f) : a.eval x = .func (.func f) #[] #[] := by
  unfold fnOf at h
  split at h
  · rename_i f' c v ow hx
    obtain rfl := Option.some.inj h
    have hk := (val_V I hx).kt
    exact List.singleton_inj.1 (show [a.eval x] = [Value.func (.func f') #[] #[]] from hk)
  · cases h
@[reducible] def rbOf (C : Wd) (s : Nat → Slot) (own : Nat → Blk) (gs : List Nat) (ls : List (List (Nat × Nat))) (tv : Nat → Value) : Rb :=
  ⟨fun l b => PAR ≤ l ∧ ∃ L, ls[l - PAR]? = some L ∧ C.RO L b ∧ ∀ n ∈ gs, (s n).lives → ¬ own n b, tv⟩
end
variable [Tys] [Rb] [Cx]
variable {F : Fr} {σ σ' : St} {a : Act} {w w' : World} {μ : Nat → Value} {own : Nat → Blk} {s : Nat → Slot} {C C' : Wd} {o : Oper}
theorem argVals_V (I : Inv F σ a w μ own) : ∀ (xs : List Operand) (ts : List TypeId) (as : List KV), argVals (envAt σ.env o) xs ts = some as → AllV (ctx σ.sto w μ own) σ.sto as (xs.map a.eval)
  | [], _, as, h => by obtain rfl := Option.some.inj h; trivial
  | x :: xs, t :: ts, as, h => by
    simp only [argVals] at h
    split at h
    · rename_i kv l h1 h2
      obtain rfl := Option.some.inj h
      exact ⟨val_V I h1, argVals_V I xs ts l h2⟩
    · cases h
  | _ :: _, [], _, h => by cases h
theorem iosOf_hd (hd : Nat → Value) : ∀ (ms : List Mode) (as : List KV) (vs : List Value) (ns : List KV) (p : Nat), iosOf ms as = some ns → AllV C s as vs → (∀ j v, vs[j]? = some v → hd (p + j) = v) →
    AllV C s ns ((iosAt ms p).map hd)
  | [], [], vs, ns, p, h, _, _ => by obtain rfl : [] = ns := by simpa [iosOf] using h
                                     trivial
  | m :: ms, k :: as, vs, ns, p, h, hv, hh => by
    cases vs with
    | nil => exact hv.elim
    | cons v vs =>
      obtain ⟨hv1, hv2⟩ := hv
      have hh' : ∀ j v', vs[j]? = some v' → hd (p + 1 + j) = v' := fun j v' hj => by
        have := hh (j + 1) v' hj
        rw [← this]; congr 1; omega
      cases m with
      | bor => exact iosOf_hd hd ms as vs ns (p + 1) h hv2 hh'
      | own => exact iosOf_hd hd ms as vs ns (p + 1) h hv2 hh'
      | io =>
        simp only [iosOf] at h
        split at h
        · rename_i l hl
          obtain rfl := Option.some.inj h
          have h0 : hd p = v := hh 0 v rfl
          refine ⟨?_, iosOf_hd hd ms as vs l (p + 1) hl hv2 hh'⟩
          rw [h0]; exact hv1
        · cases h
  | [], _ :: _, _, _, _, h, _, _ => by cases h
  | .bor :: _, [], _, _, _, h, _, _ => by cases h
  | .own :: _, [], _, _, _, h, _, _ => by cases h
  | .io :: _, [], _, _, _, h, _, _ => by cases h
theorem callOk_of {orc : CallO} (H : ∀ f args rt ro r, orc f args rt ro = some r → CallSem f args rt ro r) : CallOk orc := by
  intro rid F σ a w o hI hf f args rt ro kk r e hop hr hk hc σ' ha K Q hK
  obtain ⟨μ, own, I⟩ := hI
  unfold opR at hop
  obtain ⟨c, x0, f0, as, ho, hcal, hx0, has, hcall⟩ := opR0_call hop
  have hev := fnOf_eval I hx0
  generalize touchOf σ.env σ.sto o = T at hcall
  have hfz : ∀ n ∈ fzAt rid.fz o (within σ.sto T), σ.sto n ≠ .fresh := fun n hn => by
    unfold fzAt at hn
    obtain ⟨x, hx, rfl⟩ := List.mem_map.1 hn
    have h2 := (List.mem_filter.1 hx).2
    rw [Bool.and_eq_true] at h2
    have h3 := h2.2
    unfold lives? at h3
    split at h3
    · rename_i kv p q e; rw [within_live e]; simp
    · cases h3
  generalize fzAt rid.fz o (within σ.sto T) = fz at hcall hfz
  have hs : Under (within σ.sto T) σ.sto := fun n kv p q h => within_live h
  unfold callR at hcall
  split at hcall
  · cases hcall
  · rename_i g hg
    split at hcall
    · rename_i xs gs ls ns hargs hios
      cases hb : (ls.all (okLoans (updAll (within σ.sto T) (goneAll gs))) && g.ro.allL parOnly) with
      | false => rw [hb] at hcall; cases hcall
      | true =>
        rw [hb] at hcall
        simp only [cond_true] at hcall
        cases hcall
        simp only [Bool.and_eq_true] at hb
        obtain ⟨hfin, hro⟩ := hb
        have hu : Under (updAll (within σ.sto T) (goneAll gs)) (within σ.sto T) := fun n kv p q h => by
          rw [updAll_gone] at h
          split at h
          · cases h
          · exact h
        have hok : ∀ L ∈ ls, okLoans (updAll (within σ.sto T) (goneAll gs)) L = true := List.all_eq_true.1 hfin
        have hokσ : ∀ L ∈ ls, okLoans σ.sto L = true := fun L hL => okLoans_under hs (okLoans_under hu (hok L hL))
        have lent : ∀ j l, ls[j]? = some l → Lent (ctx σ.sto w μ own) (@ctx0 _ (rbOf (ctx σ.sto w μ own) σ.sto own gs ls (muZ fz μ)) w) l [(PAR + j, 0)] := fun j l hj => by
          have hL := List.mem_of_getElem? hj
          refine ⟨rfl, fun b hb => ⟨hb.1, fun n kv p q hn => (by cases (show Slot.fresh = .live kv p q from hn)), fun _ => ⟨_, List.mem_singleton.2 rfl, Nat.le_add_right _ _, l, ?_, hb, fun n hn ⟨kv, p, q, e⟩ ho => ?_⟩⟩⟩
          · show ls[PAR + j - PAR]? = some l
            rw [Nat.add_sub_cancel_left]; exact hj
          · obtain ⟨x, hx, hx1, _⟩ := hb.2.1 n kv p q e ho
            have hlt : n < PAR := Nat.lt_of_not_le fun h => by rw [I.low n h] at e; cases e
            obtain ⟨kv', p', q', e', _⟩ := okLoan_live (List.all_eq_true.1 (hok l hL) x hx) hx1 hlt
            rw [updAll_gone, if_pos hn] at e'
            cases e'
        have hV := argVals_V I _ _ _ has
        obtain ⟨k1, k2, k3⟩ := argsOf_K (fz := fz) (C' := @ctx0 _ (rbOf (ctx σ.sto w μ own) σ.sto own gs ls (muZ fz μ)) w) I (fun _ _ => rfl) _ _ 0 _ _ _ _ _ hargs hV hs fun j l hj => ⟨hokσ l (List.mem_of_getElem? hj), by rw [Nat.zero_add]; exact lent j l hj⟩
        have hgs : ∀ n ∈ gs, (σ.sto n).lives := fun n hn => by
          obtain ⟨kv, p, q, e⟩ := k3 n hn
          exact ⟨kv, p, q, hs _ _ _ _ e⟩
        have S := H _ _ _ _ _ hr
        have hlt : ∀ b, ownBy own gs b → b < w.heap.size := fun b ⟨n, hn, ho⟩ => by
          obtain ⟨kv, p, q, e⟩ := hgs n hn
          exact (I.bound n kv p q e b ho).1
        have hcalls := S.calls g hg (rbOf (ctx σ.sto w μ own) σ.sto own gs ls (muZ fz μ)) w _ _ k1 k2 fun b hb => ⟨hlt b hb, fun l hl => by
          obtain ⟨_, L, _, _, h⟩ := hl
          obtain ⟨n, hn, ho⟩ := hb
          exact h n hn (hgs n hn) ho⟩
        unfold Oper.wp
        have hexec : (execOp a.eval o).run Cx.P w = .ok (.enter f (c.args.toList.map a.eval).toArray) w := by
          have e1 : execOp a.eval o = callFunc f (#[] ++ c.args.map a.eval ++ #[]) := by
            obtain ⟨dst, op, type, pos, after, guard⟩ := o
            obtain ⟨callee, xs, ats⟩ := c
            dsimp only at ho hcal
            subst ho
            subst hcal
            unfold execOp
            dsimp only
            unfold resolve
            dsimp only
            rw [hev]
            rfl
          rw [e1, S.enter]
          congr 2
          apply Array.ext'
          simp
        rw [hexec, Oper.upon_enter]
        intro cs
        obtain ⟨e0, w', fr, ⟨v, rfl, hB⟩, h2, h3, h4⟩ := hcalls cs
        refine ⟨.returned v, w', fr, ?_, h2, h3, h4⟩
        refine hK v w' ?_
        have lsk : ∀ L ∈ ls, ∀ l ∈ L, known σ.sto l := fun L hL l hl => by
          have := List.all_eq_true.1 (hokσ L hL) l hl
          by_cases hp : PAR ≤ l.1
          · exact .inl hp
          · obtain ⟨kv, p, q, e1, e2⟩ := okLoan_live this rfl (Nat.lt_of_not_le hp)
            refine .inr ?_
            rw [e1]
            exact ⟨fun h => by omega, fun h => by omega⟩
        have hh := iosOf_hd (fun p => (c.args.toList.map a.eval).toArray.getD p undef) _ _ _ _ 0 hios hV fun j v hj => by
          rw [Nat.zero_add, Array.getD_eq_getD_getElem?]
          simp only [List.getElem?_toArray, hj, Option.getD_some]
        revert hk hB r
        generalize g.rt = rt
        intro r hr hk S hcalls hB
        cases rt with
        | pair t ts =>
          obtain ⟨S1, S2, b1, b2, b3, b4, b5, b6, b7, b8, b9⟩ := hB
          exact back_inv I hs hgs hk hfz hro lsk (c0 := @ctx0 _ (rbOf (ctx σ.sto w μ own) σ.sto own gs ls (muZ fz μ)) w') rfl (fun _ _ => rfl) (fun L hL => List.all_eq_true.2 fun x hx => by unfold okLoan; rw [List.all_eq_true.1 hL x hx]; rfl)
            (fun L b hL hro => by
              obtain ⟨_, _, h3⟩ := hro
              obtain ⟨l, hl, _, L', h4, h5, _⟩ := h3 fun l hl => Nat.le_of_ble_eq_true (List.all_eq_true.1 hL l hl)
              exact ⟨l, hl, L', h4, h5⟩) b1 b2 hh b3 b4 ⟨b5, b6, b7⟩ b8 b9 hf ha
        | _ => exact hB.elim
    · cases hcall
end Go.Proofs.YthkdkojfahaeaaaGreat.Eng
/- The evaluator's run: what it says holds of the machine. No condition. -/
set_option linter.unusedSectionVars false
set_option linter.unusedVariables false
namespace Go.Proofs.YthkdkojfahaeaaaGreat.Eng
variable [Tys] [Cx]
theorem run_enter {P : Program} {f : FuncId} {fn : Func} {c : Code} (hf : P.funcs[f]? = some fn) (hname : (fn.name == "runtime.NumGoroutine") = false) (hb : fn.body = some c) (args : Array Value) (w : World) :
    (callFunc f args).run P w = .ok (.enter f args) w := by
  have h1 : fn.name ≠ "runtime.NumGoroutine" := by simpa using hname
  simp [callFunc, hf, h1, hb]
theorem packA_len {C : Wd} : ∀ (args : List KV) (vs : List Value) (S : Blk), KTs C (packA args).t (packA args).o (packA args).v vs S → vs.length = args.length
  | [], vs, S, h => by
    have h : vs = [] := h
    rw [h]; rfl
  | a :: as, vs, S, h => by
    obtain ⟨y, ys, S1, S2, rfl, _, h2, _⟩ := h
    have h2' : KTs C (packA as).t (Ow.mk a.o (packA as).o).snd (packA as).v ys S2 := h2
    rw [Ow.snd_mk] at h2'
    simp [packA_len as ys S2 h2']
theorem getD_pad (vs : Array Value) (n p : Nat) : (vs ++ Array.replicate n undef).getD p undef = vs.getD p undef := by
  rw [Array.getD_eq_getD_getElem?, Array.getD_eq_getD_getElem?, Array.getElem?_append]
  split
  · rfl
  · rename_i h
    rw [Array.getElem?_eq_none (Nat.le_of_not_lt h)]
    rw [Array.getElem?_replicate]
    split <;> rfl
def ReqSem : (q : Req) → D q.rt → Prop
  | .call f args rt ro, r => CallSem f args rt ro r
  | .head f todo h rt ro, r => ∀ (R : Rb) (F : Fr) (a : Act) (w : World) (g : Sig) (fn : Func), Cx.FT f = some fn → Cx.SG f = some g → F.ps = iosAt g.modes 0 → @InvE _ R F h.st a w → a.tmps.size = fn.ntmps → Ends f todo a w (@Back _ R F rt ro r)
theorem step_call {orc : (q : Req) → Option (D q.rt)} {f : Nat} {args : List KV} {rt : Ty} {ro : Ow} {r : D rt} (h : stepCall orc f args rt ro = some r) : ∃ fn g c, Cx.FT f = some fn ∧ Cx.SG f = some g ∧ fn.body = some c ∧
    (Nat.ble (entryX args).2.2.2 TOK && Nat.ble args.length fn.ntmps && (packA args).o.allL parOnly) = true ∧ ev (fun f a rt ro => orc (.call f a rt ro)) (fun t h rt ro => orc (.head f t h rt ro)) f fn g.modes rt ro FUEL true [.code c] (entry args) = some r := by
  unfold stepCall at h
  cases hf : Cx.FT f with
  | none => rw [hf] at h; cases h
  | some fn =>
    cases hg : Cx.SG f with
    | none => rw [hf, hg] at h; cases h
    | some g =>
      rw [hf, hg] at h
      dsimp only at h
      cases hc : fn.body with
      | none => rw [hc] at h; cases h
      | some c =>
        rw [hc] at h
        dsimp only at h
        cases hb : (Nat.ble (entryX args).2.2.2 TOK && Nat.ble args.length fn.ntmps && (packA args).o.allL parOnly) with
        | false => rw [hb] at h; cases h
        | true => rw [hb] at h; exact ⟨fn, g, c, rfl, rfl, hc, hb, h⟩
theorem step_head {orc : (q : Req) → Option (D q.rt)} {f : Nat} {todo : List Item} {hs : HS} {rt : Ty} {ro : Ow} {r : D rt} (h : stepHead orc f todo hs rt ro = some r) : ∃ fn g, Cx.FT f = some fn ∧ Cx.SG f = some g ∧
    ev (fun f a rt ro => orc (.call f a rt ro)) (fun t h rt ro => orc (.head f t h rt ro)) f fn g.modes rt ro FUEL true todo hs.st = some r := by
  unfold stepHead at h
  cases hf : Cx.FT f with
  | none => rw [hf] at h; cases h
  | some fn =>
    cases hg : Cx.SG f with
    | none => rw [hf, hg] at h; cases h
    | some g => rw [hf, hg] at h; exact ⟨fn, g, rfl, rfl, h⟩
theorem step_sem (G : Good) {orc : (q : Req) → Option (D q.rt)} (H : ∀ q r, orc q = some r → ReqSem q r) : ∀ q r, step orc q = some r → ReqSem q r := by
  have body : ∀ (R : Rb) (F : Fr) (f : Nat) (fn : Func) (g : Sig), Cx.FT f = some fn → Cx.SG f = some g → F.ps = iosAt g.modes 0 →
      @BodyOk _ R _ F f fn g.modes (fun f a rt ro => orc (.call f a rt ro)) (fun t h rt ro => orc (.head f t h rt ro)) (@Back _ R F) := fun R F f fn g hf hg hps =>
    ⟨(G.ft f fn hf).1, hps, callOk_of fun f' args rt ro r hr => H (.call f' args rt ro) r hr, fun σ a w rt ro r I h => ret_back G hps I h, fun σ a w live I => I.stop live,
      fun todo h rt ro r a w hr I hsz => H (.head f todo h rt ro) r hr R F a w g fn hf hg hps I hsz⟩
  intro q r h
  cases q with
  | call f args rt ro =>
    obtain ⟨fn, g, c, hf, hg, hc, hb, h⟩ := step_call h
    simp only [Bool.and_eq_true] at hb
    refine ⟨fun vs w => run_enter (G.ft f fn hf).1 (G.ft f fn hf).2 hc vs w, fun g' hg' R w vs S hk ho hS => ?_⟩
    rw [hg] at hg'
    obtain rfl := Option.some.inj hg'
    have hlen := packA_len args vs S hk
    have hle := Nat.le_of_ble_eq_true hb.1.2
    have I := @entry_inv _ R _ w args vs S (vs.toArray ++ Array.replicate (fn.ntmps - vs.toArray.size) undef) (iosAt g.modes 0) hk ho hS hb.1.1 (fun j y hj => by
      rw [getD_pad, Array.getD_eq_getD_getElem?]
      simp [hj])
    simp only [getD_pad] at I
    have E := ev_ends G (body R _ f fn g hf hg rfl) FUEL true [.code c] _ _ _ h I (by simp; omega)
    exact Ends.calls (G.ft f fn hf).1 hc E
  | head f todo hst rt ro =>
    obtain ⟨fn, g, hf, hg, h⟩ := step_head h
    intro R F a w g' fn' hf' hg' hps I hsz
    rw [hf] at hf'
    rw [hg] at hg'
    obtain rfl := Option.some.inj hf'
    obtain rfl := Option.some.inj hg'
    exact ev_ends G (body R F f fn g hf hg hps) FUEL true todo _ _ _ h I hsz
theorem run_sem (G : Good) : ∀ (k : Nat) (q : Req) (r : D q.rt), run k q = some r → ReqSem q r
  | 0, q, r, h => by cases h
  | k + 1, q, r, h => step_sem G (run_sem G k) q r h
end Go.Proofs.YthkdkojfahaeaaaGreat.Eng
/- The limit of the evaluator's runs, and its equation. No condition. -/
set_option linter.unusedSectionVars false
set_option linter.unusedVariables false
namespace Go.Proofs.YthkdkojfahaeaaaGreat.Eng
variable [Tys] [Cx]
def Ev (p : Nat → Prop) : Prop := ∃ N, ∀ n, N ≤ n → p n
theorem Ev.imp {p q : Nat → Prop} (h : Ev p) (k : ∀ n, p n → q n) : Ev q := by
  obtain ⟨N, h⟩ := h
  exact ⟨N, fun n hn => k n (h n hn)⟩
theorem Ev.and {p q : Nat → Prop} (h : Ev p) (k : Ev q) : Ev fun n => p n ∧ q n := by
  obtain ⟨N, h⟩ := h
  obtain ⟨M, k⟩ := k
  exact ⟨max N M, fun n hn => ⟨h n (by omega), k n (by omega)⟩⟩
theorem Ev.all {p : Nat → Prop} (h : ∀ n, p n) : Ev p := ⟨0, fun n _ => h n⟩
theorem conds_true {α : Type} {k : Option α} : ∀ {cs : List Bool}, (∀ b ∈ cs, b = true) → conds cs k = k
  | [], _ => rfl
  | c :: cs, h => by
    have h1 : c = true := h c List.mem_cons_self
    subst h1
    have h2 : ∀ b ∈ cs, b = true := fun b hb => h b (List.mem_cons_of_mem _ hb)
    exact conds_true (cs := cs) h2
theorem conds_some' {α : Type} {k : Option α} {y : α} : ∀ {cs : List Bool}, conds cs k = some y → (∀ b ∈ cs, b = true) ∧ k = some y
  | [], h => ⟨by simp, h⟩
  | c :: cs, h => by
    cases c with
    | false => cases h
    | true =>
      obtain ⟨h1, h2⟩ := conds_some' (cs := cs) (k := k) h
      exact ⟨fun b hb => by rcases List.mem_cons.1 hb with rfl | hb; rfl; exact h1 b hb, h2⟩
theorem conds_ev {α : Type} {k : Option α} {kn : Nat → Option α} {y : α} {cs : List Bool} (hk : k = some y → Ev fun n => kn n = some y) (h : conds cs k = some y) : Ev fun n => conds cs (kn n) = some y := by
  obtain ⟨h1, h2⟩ := conds_some' h
  exact (hk h2).imp fun n hn => by rw [conds_true h1]; exact hn
theorem evOps_ev {α : Type} {rid : Rid} {orc : CallO} {on : Nat → CallO} (H : ∀ f a rt ro r, orc f a rt ro = some r → Ev fun n => on n f a rt ro = some r) {all : List Oper} {draw : Bool} {k : St → Option α} {kn : Nat → St → Option α}
    (hk : ∀ σ y, k σ = some y → Ev fun n => kn n σ = some y) {y : α} : ∀ (os : List Oper) (tr : List Tr) (σ : St), evOps orc rid all draw os tr σ k = some y → Ev fun n => evOps (on n) rid all draw os tr σ (kn n) = some y
  | [], tr, σ, h => by
    simp only [evOps] at h ⊢
    cases draw with
    | false => exact hk σ y h
    | true =>
      cases hd : drawOk all tr.reverse with
      | false => rw [hd] at h; cases h
      | true => rw [hd] at h; exact hk σ y h
  | o :: os, tr, σ, h => by
    simp only [evOps] at h ⊢
    have skip : ∀ σ : St, evOps orc rid all draw os (⟨[], []⟩ :: tr) (σ.put? o.dst (some KV.nil)) k = some y → Ev fun n => evOps (on n) rid all draw os (⟨[], []⟩ :: tr) (σ.put? o.dst (some KV.nil)) (kn n) = some y := fun σ => evOps_ev H hk os _ _
    have fin : ∀ (σ : St) (e : Eff), conds e.conds (match e.apply o.dst σ with
          | some σ' => evOps orc rid all draw os (⟨bif draw then touchOf σ.env σ.sto o else [], e.wr⟩ :: tr) σ' k
          | none => none) = some y → Ev fun n => conds e.conds (match e.apply o.dst σ with
          | some σ' => evOps (on n) rid all draw os (⟨bif draw then touchOf σ.env σ.sto o else [], e.wr⟩ :: tr) σ' (kn n)
          | none => none) = some y := by
      intro σ e h
      refine conds_ev (fun h => ?_) h
      split at h
      · exact evOps_ev H hk os _ _ h
      · cases h
    have go : ∀ σ : St, (match opR rid σ.env σ.sto o with
        | .eff e => conds e.conds (match e.apply o.dst σ with
          | some σ' => evOps orc rid all draw os (⟨bif draw then touchOf σ.env σ.sto o else [], e.wr⟩ :: tr) σ' k
          | none => none)
        | .call f args rt ro kk => (orc f args rt ro).bind fun r => match kk r with
          | some e => conds e.conds (match e.apply o.dst σ with
            | some σ' => evOps orc rid all draw os (⟨bif draw then touchOf σ.env σ.sto o else [], e.wr⟩ :: tr) σ' k
            | none => none)
          | none => none
        | .bad => none) = some y → Ev fun n => (match opR rid σ.env σ.sto o with
        | .eff e => conds e.conds (match e.apply o.dst σ with
          | some σ' => evOps (on n) rid all draw os (⟨bif draw then touchOf σ.env σ.sto o else [], e.wr⟩ :: tr) σ' (kn n)
          | none => none)
        | .call f args rt ro kk => (on n f args rt ro).bind fun r => match kk r with
          | some e => conds e.conds (match e.apply o.dst σ with
            | some σ' => evOps (on n) rid all draw os (⟨bif draw then touchOf σ.env σ.sto o else [], e.wr⟩ :: tr) σ' (kn n)
            | none => none)
          | none => none
        | .bad => none) = some y := by
      intro σ h
      split at h
      · rename_i e he
        skip
        exact fin σ e h
      · rename_i f args rt ro kk he
        skip
        cases hr : orc f args rt ro with
        | none => rw [hr] at h; cases h
        | some r =>
          rw [hr] at h
          simp only [Option.bind_some] at h
          have h2 := H _ _ _ _ _ hr
          split at h
          · rename_i e hk
            refine (h2.and (fin σ e h)).imp fun n hn => ?_
            rw [hn.1]
            simp only [Option.bind_some, hk]
            exact hn.2
          · cases h
      · cases h
    cases hg : guardOf all σ.env o with
    | on =>
      rw [hg] at h
      exact go σ h
    | off =>
      rw [hg] at h
      exact skip σ h
    | bad => rw [hg] at h; cases h
    | ask g b ow want =>
      rw [hg] at h
      dsimp only at h ⊢
      cases b with
      | true =>
        cases want with
        | true => exact go _ h
        | false => exact skip _ h
      | false =>
        cases want with
        | true => exact skip _ h
        | false => exact go _ h
theorem ev_ev {orc : CallO} {on : Nat → CallO} {head : HeadO} {hn : Nat → HeadO} (H : ∀ f a rt ro r, orc f a rt ro = some r → Ev fun n => on n f a rt ro = some r)
    (Hh : ∀ todo h rt ro r, head todo h rt ro = some r → Ev fun n => hn n todo h rt ro = some r) {f : Nat} {fn : Func} {modes : List Mode} {rt : Ty} {ro : Ow} {r : D rt} :
    ∀ (m : Nat) (first : Bool) (todo : List Item) (σ : St), ev orc head f fn modes rt ro m first todo σ = some r → Ev fun n => ev (on n) (hn n) f fn modes rt ro m first todo σ = some r
  | 0, _, _, _, h => by cases h
  | m + 1, first, [], σ, h => Ev.all fun _ => h
  | m + 1, first, .inBlock _ :: k, σ, h => ev_ev H Hh m first k σ h
  | m + 1, first, .inLoop c :: k, σ, h => ev_ev H Hh m first _ σ h
  | m + 1, first, .code c :: k, σ, h => by
    cases c with
    | skip => exact ev_ev H Hh m first k σ h
    | label l => exact ev_ev H Hh m first k σ h
    | seq x y => exact ev_ev H Hh m first _ σ h
    | block id x => exact ev_ev H Hh m first _ σ h
    | loop x => exact ev_ev H Hh m first _ σ h
    | exit id =>
      simp only [ev] at h ⊢
      split at h
      · rename_i k' hk
        exact ev_ev H Hh m first k' σ h
      · cases h
    | ret => exact Ev.all fun _ => h
    | cond c x y =>
      simp only [ev] at h ⊢
      split at h
      · rename_i c' b ow t hv
        cases b with
        | true => exact ev_ev H Hh m first _ _ h
        | false => exact ev_ev H Hh m first _ _ h
      · cases h
    | region id ops draw =>
      simp only [ev] at h ⊢
      cases hfit : fitAll fn.ntmps (iosAt modes 0) ops.toList with
      | false => rw [hfit] at h; cases h
      | true =>
        rw [hfit] at h
        simp only [Bool.not_true, cond_false] at h ⊢
        have go : ∀ _ : Nat, evOps orc ⟨id, Cx.TAKE f id, Cx.HOLE f id, Cx.JOIN f id⟩ ops.toList draw ops.toList [] σ (fun σ => match joinAll σ.sto (Cx.JOIN f id) with
          | some s => ev orc head f fn modes rt ro m false k ⟨σ.env, s⟩
          | none => none) = some r → Ev fun n => evOps (on n) ⟨id, Cx.TAKE f id, Cx.HOLE f id, Cx.JOIN f id⟩ ops.toList draw ops.toList [] σ (fun σ => match joinAll σ.sto (Cx.JOIN f id) with
          | some s => ev (on n) (hn n) f fn modes rt ro m false k ⟨σ.env, s⟩
          | none => none) = some r := fun _ h =>
          evOps_ev H (fun σ y h => by
            split at h
            · rename_i s' hj
              exact ev_ev H Hh m false k ⟨σ.env, s'⟩ h
            · cases h) _ _ _ h
        cases first with
        | true => exact go 0 h
        | false =>
          simp only [cond_false] at h ⊢
          split at h
          · exact Hh _ _ _ _ _ h
          · exact go 0 h
    | _ => simp only [ev] at h; cases h
abbrev Orc := (q : Req) → Option (D q.rt)
theorem step_ev {L : Orc} {o : Nat → Orc} (H : ∀ q r, L q = some r → Ev fun n => o n q = some r) : ∀ q r, step L q = some r → Ev fun n => step (o n) q = some r := by
  intro q r h
  cases q with
  | call f args rt ro =>
    obtain ⟨fn, g, c, hf, hg, hc, hb, h⟩ := step_call (orc := L) h
    have := ev_ev (on := fun n f a rt ro => o n (.call f a rt ro)) (hn := fun n t h rt ro => o n (.head f t h rt ro)) (fun f a rt ro r h => H (.call f a rt ro) r h) (fun t h rt ro r hr => H (.head f t h rt ro) r hr) _ _ _ _ h
    refine this.imp fun n hn => ?_
    show stepCall (o n) f args rt ro = some r
    unfold stepCall
    rw [hf, hg]
    dsimp only
    rw [hc]
    dsimp only
    rw [hb]
    exact hn
  | head f todo hst rt ro =>
    obtain ⟨fn, g, hf, hg, h⟩ := step_head (orc := L) h
    have := ev_ev (on := fun n f a rt ro => o n (.call f a rt ro)) (hn := fun n t h rt ro => o n (.head f t h rt ro)) (fun f a rt ro r h => H (.call f a rt ro) r h) (fun t h rt ro r hr => H (.head f t h rt ro) r hr) _ _ _ _ h
    refine this.imp fun n hn => ?_
    show stepHead (o n) f todo hst rt ro = some r
    unfold stepHead
    rw [hf, hg]
    exact hn
theorem step_mono {L M : Orc} (H : ∀ q r, L q = some r → M q = some r) {q : Req} {r : D q.rt} (h : step L q = some r) : step M q = some r := by
  obtain ⟨N, hN⟩ := step_ev (o := fun _ => M) (fun q r h => Ev.all fun _ => H q r h) q r h
  exact hN N (Nat.le_refl N)
theorem run_succ : ∀ (k : Nat) (q : Req) (r : D q.rt), run k q = some r → run (k + 1) q = some r
  | 0, _, _, h => by cases h
  | k + 1, q, r, h => step_mono (L := run k) (M := run (k + 1)) (run_succ k) h
theorem run_le {k m : Nat} (h : k ≤ m) {q : Req} {r : D q.rt} (hr : run k q = some r) : run m q = some r := by
  induction h with
  | refl => exact hr
  | step _ ih => exact run_succ _ q r ih
open Classical in
noncomputable def lim (q : Req) : Option (D q.rt) := if h : ∃ r k, run k q = some r then some h.choose else none
theorem lim_run {q : Req} {r : D q.rt} : lim q = some r ↔ ∃ k, run k q = some r := by
  unfold lim
  constructor
  · intro h
    split at h
    · rename_i hx
      obtain rfl := Option.some.inj h
      exact hx.choose_spec
    · cases h
  · intro h
    have hx : ∃ r k, run k q = some r := ⟨r, h⟩
    rw [dif_pos hx]
    obtain ⟨k, hk⟩ := h
    obtain ⟨m, hm⟩ := hx.choose_spec
    have h1 := run_le (Nat.le_max_left k m) hk
    have h2 := run_le (Nat.le_max_right k m) hm
    rw [h1] at h2
    exact h2.symm
theorem lim_some {q : Req} {r : D q.rt} : lim q = some r ↔ step lim q = some r := by
  constructor
  · intro h
    obtain ⟨k, hk⟩ := lim_run.1 h
    cases k with
    | zero => cases hk
    | succ k => exact step_mono (L := run k) (fun q r h => lim_run.2 ⟨k, h⟩) hk
  · intro h
    obtain ⟨N, hN⟩ := step_ev (L := lim) (o := run) (fun q r h => by
      obtain ⟨k, hk⟩ := lim_run.1 h
      exact ⟨k, fun n hn => run_le hn hk⟩) q r h
    exact lim_run.2 ⟨N + 1, hN N (Nat.le_refl N)⟩
theorem lim_eq (q : Req) : lim q = step lim q := by
  cases h : step lim q with
  | some r => exact lim_some.2 h
  | none =>
    cases h2 : lim q with
    | none => rfl
    | some r => rw [lim_some.1 h2] at h; cases h
theorem lim_sem (G : Good) {q : Req} {r : D q.rt} (h : lim q = some r) : ReqSem q r := by
  obtain ⟨k, hk⟩ := lim_run.1 h
  exact run_sem G k q r hk
end Go.Proofs.YthkdkojfahaeaaaGreat.Eng
/- What a row's reading of an argument says of the evaluator's values. No condition. -/
set_option linter.unusedSectionVars false
set_option linter.unusedVariables false
namespace Go.Proofs.YthkdkojfahaeaaaGreat.Eng
variable [Tys] [Rb]
def Bnd : (t : Ty) → D t → Prop
  | .int k, n => (Lit.int k n).wf = true
  | .str, s => ByteArray.size s ≤ 9223372036854775807
  | .sl a, xs => List.length (α := D a) xs ≤ 9223372036854775807 ∧ ∀ x : D a, List.Mem x (show List (D a) from xs) → Bnd a x
  | .pair a b, v => Bnd a v.1 ∧ Bnd b v.2
  | .st i r, v => ∃ h : Tys.row i = r, Bnd r (h ▸ Tys.to i v)
  | _, _ => True
def Ty.opens : Ty → Bool
  | .bool | .str | .int _ | .unit => true
  | .pair a b => a.opens && b.opens
  | .st i r => r.opens && decide (Tys.row i = r)
  | .sl a => a.opens && !Nat.beq a.sz 0
  | _ => false
variable {P : Program} {C : Wd} {ls : List (Nat × Nat)}
theorem TD.cellsOf {ty : Ty} {t : TypeId} (h : TD P ty t) : P.cellsOf t = ty.sz := by
  obtain ⟨i, h1, h2, _⟩ := h.inf
  simp [Program.cellsOf, h1, h2]
theorem choose_vals {α β : Type} (xs : List β) (R : Nat → β → α → Prop) (h : ∀ i b, xs[i]? = some b → ∃ a, R i b a) : ∃ ys : List α, ys.length = xs.length ∧ ∀ (i : Nat) b, xs[i]? = some b → ∃ a, ys[i]? = some a ∧ R i b a := by
  induction xs generalizing R with
  | nil => exact ⟨[], rfl, fun i b hb => by simp at hb⟩
  | cons x xs ih =>
    obtain ⟨a, ha⟩ := h 0 x rfl
    obtain ⟨ys, hl, hy⟩ := ih (fun i => R (i + 1)) (fun i b hb => h (i + 1) b (by simpa using hb))
    refine ⟨a :: ys, by simp [hl], fun i b hb => ?_⟩
    cases i with
    | zero =>
      have : x = b := by simpa using hb
      subst this
      exact ⟨a, rfl, ha⟩
    | succ i => exact hy i b (by simpa using hb)
section
variable {H : Type} {enc : TypeId × Value → H} {base : Nat} {spare : Nat → Bool} {held : Bool}
theorem opens (hRO : ∀ b, b < C.w.heap.size → C.RO ls b) : ∀ ty : Ty, ty.opens = true →
    (∀ (t : TypeId) (fuel : Nat) (cs : List Value) (x : DataW H × List MemPlace), TD P ty t → DataW.trod enc P C.w base spare held fuel t cs = some x → ∃ v : D ty, K C ty (ty.roOf ls) v cs noBlk ∧ Bnd ty v) ∧
    (∀ (fs : List Field) (off : Nat) (cs : List Value), FD P ty fs off → cs.length = off + ty.sz → (∀ f ∈ fs, ∃ fuel y, DataW.trod enc P C.w base spare held fuel f.type ((cs.drop f.offset).take (P.cellsOf f.type)) = some y) →
      ∃ v : D ty, K C ty (ty.roOf ls) v (cs.drop off) noBlk ∧ Bnd ty v)
  | .unit, _ => by
    refine ⟨fun t fuel cs x h _ => by simp only [TD] at h, fun fs off cs h hl _ => ?_⟩
    exact ⟨(), List.drop_of_length_le (by simp [hl, Ty.sz]), trivial⟩
  | .bool, _ => by
    refine ⟨fun t fuel cs x h hx => ?_, fun fs off cs h _ _ => by cases fs <;> simp only [FD] at h⟩
    obtain ⟨b, rfl, _⟩ := DataW.trod_bool h.1 hx
    exact ⟨b, rfl, trivial⟩
  | .str, _ => by
    refine ⟨fun t fuel cs x h hx => ?_, fun fs off cs h _ _ => by cases fs <;> simp only [FD] at h⟩
    obtain ⟨s, rfl, _, hs⟩ := DataW.trod_string h.1 hx
    refine ⟨s, rfl, ?_⟩
    unfold maxLen at hs
    show s.size ≤ _
    omega
  | .int k, _ => by
    refine ⟨fun t fuel cs x h hx => ?_, fun fs off cs h _ _ => by cases fs <;> simp only [FD] at h⟩
    obtain ⟨n, rfl, _, hw⟩ := DataW.trod_int h.1 hx
    exact ⟨n, rfl, hw⟩
  | .pair a b, ho => by
    simp only [Ty.opens, Bool.and_eq_true] at ho
    refine ⟨fun t fuel cs x h _ => by simp only [TD] at h, fun fs off cs h hl hf => ?_⟩
    cases fs with
    | nil => simp only [FD] at h
    | cons f fs =>
      obtain ⟨h1, h2, h3, h4⟩ := h
      obtain ⟨fuel, y, hy⟩ := hf f List.mem_cons_self
      have hl' : cs.length = off + a.sz + b.sz := by simp only [Ty.sz] at hl; omega
      rw [h1, h3.cellsOf] at hy
      obtain ⟨v, hv, hb⟩ := (opens hRO a ho.1).1 _ _ _ _ h3 hy
      obtain ⟨u, hu, hb2⟩ := (opens hRO b ho.2).2 fs (off + a.sz) cs h4 hl' fun g hg => hf g (List.mem_cons_of_mem _ hg)
      refine ⟨(v, u), ⟨_, _, noBlk, noBlk, ?_, by simp only [Ty.roOf, Ow.fst_mk]; exact hv, by simp only [Ty.roOf, Ow.snd_mk]; exact hu, fun _ h => h, fun _ h => h, fun _ h => h.elim⟩, hb, hb2⟩
      rw [← List.drop_drop]
      exact (List.take_append_drop _ _).symm
  | .st i r, ho => by
    simp only [Ty.opens, Bool.and_eq_true, decide_eq_true_eq] at ho
    obtain ⟨ho, hr⟩ := ho
    subst hr
    refine ⟨fun t fuel cs x h hx => ?_, fun fs off cs h _ _ => by cases fs <;> simp only [FD] at h⟩
    have hc := h.cellsOf
    simp only [TD] at h
    obtain ⟨fs, hu, _, hF, _⟩ := h
    obtain ⟨xs, n, rfl, _, hl, hxl, hx⟩ := DataW.trod_struct hu hx
    obtain ⟨v, hv, hb⟩ := (opens hRO (Tys.row i) ho).2 fs.toList 0 cs hF (by rw [hl, hc]; simp [Ty.sz]) (fun f hf => by
      obtain ⟨j, hj⟩ := List.getElem?_of_mem hf
      have hj' : fs[j]? = some f := by simpa using hj
      have h1 := hx j f hj'
      have h2 : j < xs.length := by
        have := (List.getElem?_eq_some_iff.1 hj).1
        simp at this
        omega
      rw [List.getElem?_eq_getElem h2] at h1
      exact ⟨_, _, h1⟩)
    refine ⟨Tys.of i v, ⟨rfl, ?_⟩, rfl, ?_⟩
    · show K C (Tys.row i) ((Tys.row i).roOf ls) (Tys.to i (Tys.of i v)) cs noBlk
      rw [Tys.to_of]
      rw [List.drop_zero] at hv
      exact hv
    · show Bnd (Tys.row i) (Tys.to i (Tys.of i v))
      rw [Tys.to_of]; exact hb
  | .sl a, ho => by
    simp only [Ty.opens, Bool.and_eq_true, Bool.not_eq_true'] at ho
    obtain ⟨ho, hsz⟩ := ho
    have hsz : 0 < a.sz := Nat.pos_of_ne_zero fun e => by rw [e] at hsz; cases hsz
    refine ⟨fun t fuel cs x h hx => ?_, fun fs off cs h _ _ => by cases fs <;> simp only [FD] at h⟩
    simp only [TD] at h
    obtain ⟨e, hu, _, hT⟩ := h
    rcases DataW.trod_slice hu hx with ⟨rfl, _⟩ | ⟨ad, len, cap, elems, rest, n, rfl, rfl, _, hb, hl, hm, hlen, hel, _, _⟩
    · exact ⟨([] : List (D a)), ⟨_, rfl, rfl, fun _ => ⟨none, 0, rfl, Nat.le_refl _, fun h => absurd rfl h⟩⟩, Nat.zero_le _, fun x hx => by cases hx⟩
    · have each : ∀ i y, elems[i]? = some y → ∃ v : D a, (∃ c, K C a (a.roOf ls) v c noBlk ∧ At C.w ad (i * a.sz) c) ∧ Bnd a v := by
        intro i y hy
        have hi : i < len := by
          have := (List.getElem?_eq_some_iff.1 hy).1
          omega
        have hr := hel i hi
        rw [hy, Option.bind_eq_some_iff] at hr
        obtain ⟨c, hcs, hty⟩ := hr
        obtain ⟨v, hK, hB⟩ := (opens hRO a ho).1 e n c y hT hty
        obtain ⟨_, hcl, hcell⟩ := World.cells?_some hcs
        refine ⟨v, ⟨c, hK, fun j u hju => ?_⟩, hB⟩
        have hj : j < c.length := (List.getElem?_eq_some_iff.1 hju).1
        have := hcell j (by omega)
        rw [hju, hT.cellsOf] at this
        rw [← this]
        by_cases h1 : j = 0 <;> by_cases h2 : i * a.sz = 0 <;> simp [Addr.add, Nat.add_assoc, h1, h2]
      obtain ⟨ys, hyl, hys⟩ := choose_vals elems _ each
      have hylen : ys.length = len := by omega
      have mem : ∀ y ∈ ys, Bnd a y := by
        intro y hy
        obtain ⟨i, hi⟩ := List.getElem?_of_mem hy
        have hil : i < elems.length := by
          have := (List.getElem?_eq_some_iff.1 hi).1
          omega
        obtain ⟨a', ha, _, hB⟩ := hys i _ (List.getElem?_eq_getElem hil)
        rw [hi] at ha
        cases ha
        exact hB
      have hmx : len ≤ 9223372036854775807 := by
        unfold maxLen at hm
        omega
      have rows : ∀ (j : Nat) (p : D a), ys[j]? = some p → ∃ xs, K C a (a.roOf ls) p xs noBlk ∧ At C.w ad (j * a.sz) xs := by
        intro j p hp
        have hjl : j < elems.length := by
          have := (List.getElem?_eq_some_iff.1 hp).1
          omega
        obtain ⟨a', ha, hR, _⟩ := hys j _ (List.getElem?_eq_getElem hjl)
        rw [hp] at ha
        cases ha
        exact hR
      refine ⟨(ys : List (D a)), ⟨_, rfl, rfl, fun _ => ⟨some ad, cap, by show Value.slice _ len cap = .slice _ ys.length cap; rw [hylen], ?_, fun hne => ⟨ad, rfl, hRO _ ?_, rows⟩⟩⟩, ?_, mem⟩
      · show ys.length ≤ cap; omega
      · have hne : ys ≠ [] := hne
        obtain ⟨p, hp⟩ : ∃ p, ys[0]? = some p := by
          cases ys with
          | nil => exact absurd rfl hne
          | cons p _ => exact ⟨p, rfl⟩
        obtain ⟨xs, hK, hat⟩ := rows 0 p hp
        have hxl := K_len _ _ _ _ _ hK
        obtain ⟨u, hu⟩ : ∃ u, xs[0]? = some u := by
          cases xs with
          | nil => simp at hxl; omega
          | cons u _ => exact ⟨u, rfl⟩
        have := hat 0 u hu
        simp only [Nat.zero_mul, Nat.add_zero, addr_zero] at this
        exact Nat.lt_of_not_le fun h => by
          unfold World.cell? at this
          rw [Array.getElem?_eq_none h] at this
          cases this
      · show ys.length ≤ _; omega
  | .bx _, ho => by cases ho
  | .pt _, ho => by cases ho
  | .tc _ _, ho => by cases ho
  | .fn _ _, ho => by cases ho
end
end Go.Proofs.YthkdkojfahaeaaaGreat.Eng
/- A law's call: its arguments read, its answer. No condition. -/
set_option linter.unusedSectionVars false
set_option linter.unusedVariables false
namespace Go.Proofs.YthkdkojfahaeaaaGreat.Eng
open Go.RowKit Go.WideShapes
section
variable [Tys] [Rb]
variable {P : Program} {C : Wd} {ls : List (Nat × Nat)} {H : Type} {enc : TypeId × Value → H} {base : Nat} {spare : Nat → Bool} {held : Bool}
theorem arg_rep {ty : Ty} {t : TypeId} {v : Value} {w : World} {base' : Nat} (hT : TD P ty t) (ho : ty.opens = true) (hok : Value.okWide P w .any base' t v) : v = repV ty v.cells.toList := by
  cases ty <;> first | cases ho | skip
  case bool => obtain ⟨b, rfl⟩ := okWide_bool hT.1 hok; rfl
  case str => obtain ⟨b, rfl⟩ := okWide_string hT.1 hok; rfl
  case int k => obtain ⟨b, rfl⟩ := okWide_int hT.1 hok; rfl
  case sl a =>
    simp only [TD] at hT
    obtain ⟨e, hu, _⟩ := hT
    obtain ⟨a, l, c, rfl⟩ := okWide_slice hu hok
    rfl
  case st i r =>
    simp only [TD] at hT
    obtain ⟨fs, hu, _⟩ := hT
    obtain ⟨cs, rfl, _⟩ := okWide_struct hu hok
    simp [repV, Ty.isSt, Value.cells]
  all_goals simp only [TD] at hT
theorem arg_KT0 (hRO : ∀ b, b < C.w.heap.size → C.RO ls b) {ty : Ty} {t : TypeId} {v : Value} {base' : Nat} {d : DataW H} {ps : List MemPlace} (hT : TD P ty t) (ho : ty.opens = true) (hok : Value.okWide P C.w .any base' t v)
    (h : DataW.Trod enc P C.w base spare held t v d ps) : ∃ x : D ty, KT0 C ty (ty.roOf ls) x v noBlk ∧ Bnd ty x := by
  obtain ⟨fuel, hf⟩ := h
  obtain ⟨x, hK, hB⟩ := (opens (C := C) (ls := ls) hRO ty ho).1 t fuel _ _ hT hf
  refine ⟨x, ?_, hB⟩
  rw [arg_rep hT ho hok]
  exact KT0_rep hT.one hK
theorem KTs_nil0 : KTs C (packA []).t (packA []).o (packA []).v [] noBlk := rfl
theorem KTs_cons0 {kv : KV} {kvs : List KV} {v : Value} {vs : List Value} (h : KT0 C kv.t kv.o kv.v v noBlk) (k : KTs C (packA kvs).t (packA kvs).o (packA kvs).v vs noBlk) :
    KTs C (packA (kv :: kvs)).t (packA (kv :: kvs)).o (packA (kv :: kvs)).v (v :: vs) noBlk :=
  ⟨v, vs, noBlk, noBlk, rfl, by show KT0 C kv.t (Ow.mk kv.o (packA kvs).o).fst kv.v v noBlk; rw [Ow.fst_mk]; exact h, by show KTs C _ (Ow.mk kv.o (packA kvs).o).snd _ vs noBlk; rw [Ow.snd_mk]; exact k, fun _ h => h, fun _ h => h, fun _ h => h.elim⟩
end
section
variable [Tys] [Cx]
@[reducible] def rbAll : Rb := ⟨fun _ _ => True, fun _ => undef⟩
theorem rbAll_RO {W : World} {p : Nat} : ∀ b, b < (@ctx0 _ rbAll W).w.heap.size → (@ctx0 _ rbAll W).RO [(PAR + p, 0)] b :=
  fun b hb => ⟨hb, fun n kv p q hn => (by cases (show Slot.fresh = .live kv p q from hn)), fun _ => ⟨_, List.mem_singleton.2 rfl, trivial⟩⟩
theorem law_calls (G : Good) {f : Nat} {args : List KV} {r : D (.pair .bool .unit)} (hl : lim (.call f args (.pair .bool .unit) .lit) = some r) {g : Sig} (hg : Cx.SG f = some g) (hio : iosAt g.modes 0 = []) {W : World} {vs : List Value}
    (hk : KTs (@ctx0 _ rbAll W) (packA args).t (packA args).o (packA args).v vs noBlk) (ho : (packA args).o.allL parOnly = true) :
    Calls Cx.P f vs.toArray W fun e W' => e = .returned (.bool r.1) ∧ Below W.heap.size W W' := by
  have S : CallSem f args (.pair .bool .unit) .lit r := lim_sem G hl
  have := S.calls g hg rbAll W vs noBlk hk ho (fun b h => h.elim)
  intro cs
  obtain ⟨e, w', fr, ⟨v, rfl, hB⟩, h2, h3, h4⟩ := this cs
  obtain ⟨S1, S2, b1, b2, b3, b4, b5, b6, b7, b8, b9⟩ := hB
  have hv : v = .bool r.1 := List.singleton_inj.1 (show [v] = [.bool r.1] from b1)
  subst hv
  exact ⟨_, w', fr, ⟨rfl, b5, b6, b7, b8, fun k hk => b9 k hk (fun h => h)⟩, h2, h3, h4⟩
end
end Go.Proofs.YthkdkojfahaeaaaGreat.Eng
