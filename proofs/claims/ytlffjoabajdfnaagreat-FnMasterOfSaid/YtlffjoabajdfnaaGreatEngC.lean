/- The state behind a call. No condition. -/
import Derived.Test.YtlffjoabajdfnaaGreatEngB
import Derived.ChangeArms
import Derived.ChangeSlices
import Derived.DataReads
import Derived.WideShapes
import Derived.Below
set_option linter.unusedSectionVars false
set_option linter.unusedVariables false
namespace Go.Proofs.YtlffjoabajdfnaaGreat.Eng
variable [Tys] [Rb] [Cx]
variable {F : Fr} {σ σ' : St} {a : Act} {w w' : World} {μ : Nat → Value} {own : Nat → Blk} {s : Nat → Slot} {C C' : Wd}
theorem named_pair {t ts : Ty} (r : D (.pair t ts)) (o : Ow) (n0 : Nat) {v : Value} {hds : List Value} {S1 S2 : Blk} (c : Wd) (h1 : KT c t o.fst r.1 v S1) (h2 : KTs c ts o.snd r.2 hds S2) (hs : ∀ m, ¬ o.says m) (hd : ∀ b, S1 b → ¬ S2 b) :
    ∃ μ2 own2, Named c o (fun b => S1 b ∨ S2 b) n0 (unfV (.pair t ts) r o n0).2.1 (unfV (.pair t ts) r o n0).2.2.1 (unfV (.pair t ts) r o n0).2.2.2
      (fun c' => KT c' t (unfV (.pair t ts) r o n0).2.1.fst (unfV (.pair t ts) r o n0).1.1 v noBlk ∧ KTs c' ts (unfV (.pair t ts) r o n0).2.1.snd (unfV (.pair t ts) r o n0).1.2 hds noBlk) μ2 own2 := by
  simp only [unfV]
  obtain ⟨μ1, own1, k1⟩ := unf_KT t r.1 o.fst n0 v S1 c h1 (fun m _ _ h => hs m (Ow.says_fst h))
  have h2' : KTs (c.mu μ1) ts o.snd r.2 hds S2 := KTs_keep _ _ _ _ _ (keeps_mu fun m hm => absurd (Ow.says_snd hm) (hs m)) h2
  obtain ⟨μ2, own2, k2⟩ := unf_KTs ts r.2 o.snd (unfV t r.1 o.fst n0).2.2.2 hds S2 (c.mu μ1) h2' (fun m _ _ h => hs m (Ow.says_snd h))
  have hs1 : ∀ m, n0 ≤ m → m < (unfV ts r.2 o.snd (unfV t r.1 o.fst n0).2.2.2).2.2.2 → ¬ o.fst.says m := fun m _ _ h => hs m (Ow.says_fst h)
  refine ⟨μ2, _, (k1.comb k2 hs1 (fun _ => Ow.says_fst) (fun _ => Ow.says_snd) (fun _ h => .inl h) (fun _ h => .inr h) hd fun h k => ?_).imp fun k => ?_⟩
  · exact KT_keep (c := c.mu μ1) (c' := (c.mu μ1).mu μ2) _ _ _ _ _ (keeps_mu fun m hm => h m (k1.out hs1 m hm)) k
  · exact ⟨by rw [Ow.fst_mk]; exact k.1, by rw [Ow.snd_mk]; exact k.2⟩
def Src (b : List Bk) (n0 n1 : Nat) (m k : Nat) : Prop := ((n0 ≤ m ∧ m < n1) ∧ k = m ∧ ∀ y ∈ b, y.k ≠ m) ∨ (¬ (n0 ≤ m ∧ m < n1) ∧ ∃ y ∈ b, y.n = m ∧ k = y.k)
def Old (b : List Bk) (n0 n1 : Nat) (m : Nat) : Prop := ¬ (n0 ≤ m ∧ m < n1) ∧ ∀ y ∈ b, y.n ≠ m
def ownC (b : List Bk) (n0 n1 : Nat) (own own2 : Nat → Blk) : Nat → Blk := fun m j => (∃ k, Src b n0 n1 m k ∧ own2 k j) ∨ (Old b n0 n1 m ∧ own m j)
section
variable {b : List Bk} {n0 n1 : Nat}
theorem Apart.n (h : Apart b) : ∀ {x y : Bk}, x ∈ b → y ∈ b → x.n = y.n → x = y := by
  induction b with
  | nil => intro x y hx; cases hx
  | cons z b ih =>
    rw [Apart, List.pairwise_cons] at h
    intro x y hx hy e
    rcases List.mem_cons.1 hx with e1 | hx1 <;> rcases List.mem_cons.1 hy with e2 | hy1
    · exact e1.trans e2.symm
    · exact absurd (e1 ▸ e) (h.1 y hy1).1
    · exact absurd (e2 ▸ e.symm) (h.1 x hx1).1
    · exact ih h.2 hx1 hy1 e
theorem Apart.k (h : Apart b) : ∀ {x y : Bk}, x ∈ b → y ∈ b → x.k = y.k → x = y := by
  induction b with
  | nil => intro x y hx; cases hx
  | cons z b ih =>
    rw [Apart, List.pairwise_cons] at h
    intro x y hx hy e
    rcases List.mem_cons.1 hx with e1 | hx1 <;> rcases List.mem_cons.1 hy with e2 | hy1
    · exact e1.trans e2.symm
    · exact absurd (e1 ▸ e) (h.1 y hy1).2
    · exact absurd (e2 ▸ e.symm) (h.1 x hx1).2
    · exact ih h.2 hx1 hy1 e
theorem Src.once (h : Apart b) {m k k' : Nat} (h1 : Src b n0 n1 m k) (h2 : Src b n0 n1 m k') : k = k' := by
  rcases h1 with ⟨r1, rfl, _⟩ | ⟨r1, y, hy, e, rfl⟩ <;> rcases h2 with ⟨r2, rfl, _⟩ | ⟨r2, y', hy', e', rfl⟩
  · rfl
  · exact absurd r1 r2
  · exact absurd r2 r1
  · rw [h.n hy hy' (e.trans e'.symm)]
theorem Src.inj (h : Apart b) {m m' k : Nat} (h1 : Src b n0 n1 m k) (h2 : Src b n0 n1 m' k) : m = m' := by
  rcases h1 with ⟨r1, e1, d1⟩ | ⟨r1, y, hy, e, e1⟩ <;> rcases h2 with ⟨r2, e2, d2⟩ | ⟨r2, y', hy', e', e2⟩
  · exact e1.symm.trans e2
  · exact absurd (e2.symm.trans e1) (d1 y' hy')
  · exact absurd (e1.symm.trans e2) (d2 y hy)
  · have := h.k hy hy' (e1.symm.trans e2)
    subst this
    exact e.symm.trans e'
theorem Src.old {m k : Nat} (h1 : Src b n0 n1 m k) : ¬ Old b n0 n1 m := fun h2 => by
  rcases h1 with ⟨r1, _⟩ | ⟨r1, y, hy, e, _⟩
  · exact h2.1 r1
  · exact h2.2 y hy e
theorem ownC_src (h : Apart b) {own2 : Nat → Blk} {m k : Nat} (h1 : Src b n0 n1 m k) : ownC b n0 n1 own own2 m = own2 k :=
  funext fun j => propext ⟨fun hj => by
    rcases hj with ⟨k', h2, hj⟩ | ⟨h2, _⟩
    · rw [h1.once h h2]; exact hj
    · exact absurd h2 h1.old, fun hj => .inl ⟨k, h1, hj⟩⟩
theorem ownC_old {own2 : Nat → Blk} {m : Nat} (h1 : Old b n0 n1 m) : ownC b n0 n1 own own2 m = own m :=
  funext fun j => propext ⟨fun hj => by
    rcases hj with ⟨k', h2, hj⟩ | ⟨_, hj⟩
    · exact absurd h1 h2.old
    · exact hj, fun hj => .inr ⟨h1, hj⟩⟩
end
theorem back_inv (I : Inv F σ a w μ own) (hs : Under s σ.sto) {gs : List Nat} {ns : List KV} {vsio : List Value} {ls : List (List (Nat × Nat))} {ro : Ow} {t ts : Ty} {r : D (.pair t ts)} {d : Nat} {e : Eff} (hgs : ∀ n ∈ gs, (σ.sto n).lives)
    (he : callBack d s gs ls ns ro (.pair t ts) r = some e) (hro : ro.allL parOnly = true) (hls : ∀ L ∈ ls, ∀ l ∈ L, known σ.sto l) {v : Value} {S1 S2 : Blk} {c0 : Wd} (hc0 : c0.w = w') (hc0ok : ∀ L, parOnly L = true → c0.ok L)
    (hc0ro : ∀ L b, parOnly L = true → c0.RO L b → ∃ l ∈ L, ∃ L', ls[l.1 - PAR]? = some L' ∧ (ctx σ.sto w μ own).RO L' b) (h1 : KT c0 t ro.fst r.1 v S1) (h2 : KTs c0 ts ro.snd r.2 vsio S2) (hio : AllV (ctx σ.sto w μ own) σ.sto ns vsio) (hd : ∀ b, S1 b → ¬ S2 b)
    (hS : ∀ b, S1 b ∨ S2 b → b < w'.heap.size ∧ (ownBy own gs b ∨ w.heap.size ≤ b)) (hos : w'.os = w.os ∧ w'.tape = w.tape ∧ w'.output = w.output) (hsz : w.heap.size ≤ w'.heap.size)
    (hfr : ∀ b, b < w.heap.size → ¬ ownBy own gs b → w'.heap[b]? = w.heap[b]?) {dst : Option Nat} (hf : ∀ d, dst = some d → d < a.tmps.size ∧ d ∉ F.ps) (ha : e.apply dst σ = some σ') : InvE F σ' (a.put dst v) w' := by
  have hno : ∀ m, ¬ (ro.mapL (lendL ls)).says m := fun m => mapL_says hro
  have hknown : ∀ l ∈ (ro.mapL (lendL ls)).lns, known σ.sto l := fun l hl => by
    obtain ⟨l', hl'⟩ := mapL_lns l hl
    obtain ⟨L, hL, hx⟩ := lendL_mem hl'
    exact hls L hL l hx
  unfold callBack at he
  dsimp only at he
  split at he
  case h_2 => cases he
  rename_i b hb
  cases hap : apartB b with
  | false => rw [hap] at he; cases he
  | true =>
  rw [hap] at he
  obtain rfl := Option.some.inj he
  have hfull := unfV_lns (.pair t ts) r (ro.mapL (lendL ls)) (nm d 0)
  -- the state behind
  simp only [Eff.apply] at ha
  cases hall : (List.all ((unfV (.pair t ts) r (ro.mapL (lendL ls)) (nm d 0)).2.2.1.map (deadIf b)) fun z => Nat.blt z.1 PAR && isFresh (σ.sto z.1)) with
  | false => rw [hall] at ha; cases ha
  | true =>
  rw [hall] at ha
  simp only [cond_true] at ha
  have ea : ∀ (s0 : Nat → Slot) (l0 : List (Nat × KV)), List.foldl (fun s z => slotSet s z.1 (.live z.2 0 0)) s0 l0 = addNew s0 l0 := fun _ _ => rfl
  simp only [ea] at ha
  have Ln : Lends c0 (mid σ.sto (addNew (updAll σ.sto (goneAll gs ++ b.map Bk.up)) ((unfV (.pair t ts) r (ro.mapL (lendL ls)) (nm d 0)).2.2.1.map (deadIf b))) w w' μ own) parOnly (lendL ls) := by
    refine ⟨hc0.symm, hc0ok, fun L j hL hj => ?_⟩
    obtain ⟨l, hl, L', hL', hR⟩ := hc0ro L j hL hj
    refine ctx_mono L' _ j (fun x hx => ?_) hR
    refine List.mem_flatMap.2 ⟨l, hl, ?_⟩
    rw [List.getD_eq_getElem?_getD, hL']
    exact hx
  obtain ⟨μ2, own2, N⟩ := named_pair r (ro.mapL (lendL ls)) (nm d 0) _ (by rw [mapL_fst]; exact KT_map Ln (allL_fst hro) h1) (by rw [mapL_snd]; exact KTs_map Ln _ _ _ _ _ (allL_snd hro) h2) hno hd
  clear Ln
  generalize unfV (.pair t ts) r (ro.mapL (lendL ls)) (nm d 0) = y at hb hall ha N hfull
  obtain ⟨v', o', l, n1⟩ := y
  dsimp only at hb hall ha N hfull
  generalize nm d 0 = n0 at N
  have b1 := apartB_spec hap
  obtain ⟨b2, b3⟩ := backGo_spec _ _ _ _ hb
  simp only [List.all_eq_true, Bool.and_eq_true, List.mem_map] at hall
  have hfresh : ∀ x ∈ l, x.1 < PAR ∧ σ.sto x.1 = .fresh := fun x hx => by
    obtain ⟨h1, h2⟩ := hall _ ⟨x, hx, rfl⟩
    rw [deadIf_fst] at h1 h2
    refine ⟨by simpa using h1, ?_⟩
    unfold isFresh at h2
    split at h2
    · assumption
    · cases h2
  generalize hs'e : addNew (updAll σ.sto (goneAll gs ++ b.map Bk.up)) (l.map (deadIf b)) = s' at N ha
  have hin : ∀ x ∈ l, s' x.1 = .live (deadIf b x).2 0 0 := fun x hx => by
    have := addNew_in (l.map (deadIf b)) (updAll σ.sto (goneAll gs ++ b.map Bk.up)) (deadIf b x) (by
      rw [List.pairwise_map]
      exact N.once.imp fun h => by rw [deadIf_fst, deadIf_fst]; exact h) (List.mem_map.2 ⟨x, hx, rfl⟩)
    rw [deadIf_fst] at this
    rw [← hs'e]; exact this
  have hout : ∀ m, ¬ (n0 ≤ m ∧ m < n1) → s' m = updAll (updAll σ.sto (goneAll gs)) (b.map Bk.up) m := fun m hm => by
    rw [← hs'e, addNew_out _ _ m fun x hx e => ?_, updAll_append]
    obtain ⟨z, hz, rfl⟩ := List.mem_map.1 hx
    rw [deadIf_fst] at e
    exact hm (e ▸ N.range z hz)
  have frσ : ∀ m, n0 ≤ m ∧ m < n1 → m < PAR ∧ σ.sto m = .fresh := fun m hm => by
    obtain ⟨x, hx, rfl⟩ := N.full m hm.1 hm.2
    exact hfresh x hx
  have nrng : ∀ m, σ.sto m ≠ .fresh → ¬ (n0 ≤ m ∧ m < n1) := fun m h hr => h (frσ m hr).2
  have hbl : ∀ y ∈ b, ∃ kv, σ.sto y.n = .live kv y.ver y.nver := fun y hy => by
    obtain ⟨_, kv, h⟩ := b2 y hy
    exact ⟨kv, hs _ _ _ _ h⟩
  have hB : ∀ y ∈ b, s' y.n = .live y.kv (y.ver + 1) (y.nver + 1) := fun y hy => by
    obtain ⟨kv, h⟩ := hbl y hy
    rw [hout _ (nrng _ (by rw [h]; simp)), upB_in _ _ _ b1 hy]
  have hold : ∀ m, Old b n0 n1 m → s' m = if m ∈ gs then .gone else σ.sto m := fun m hm => by
    rw [hout m hm.1, upB_out _ _ _ hm.2, updAll_gone]
  have ksrc : ∀ {m k}, Src b n0 n1 m k → n0 ≤ k ∧ k < n1 := fun {m k} h => by
    rcases h with ⟨r1, rfl, _⟩ | ⟨_, y, hy, _, rfl⟩
    · exact r1
    · exact N.range _ (b2 y hy).1
  have kind : ∀ m kv p q, s' m = .live kv p q → (∃ k, Src b n0 n1 m k ∧ (k, kv) ∈ l ∧ (σ.sto m = .fresh ∨ ∃ kv0 p0 q0, σ.sto m = .live kv0 p0 q0 ∧ p0 < p ∧ q0 < q)) ∨
      ((n0 ≤ m ∧ m < n1) ∧ (∃ y ∈ b, y.k = m) ∧ kv = ⟨.sl .unit, ([] : List (D .unit)), .ro (deadL b)⟩) ∨ (Old b n0 n1 m ∧ m ∉ gs ∧ σ.sto m = .live kv p q) := by
    intro m kv p q hm
    by_cases hr : n0 ≤ m ∧ m < n1
    · obtain ⟨x, hx, rfl⟩ := N.full m hr.1 hr.2
      rw [hin x hx] at hm
      by_cases hk : ∃ y ∈ b, y.k = x.1
      · obtain ⟨y, hy, e⟩ := hk
        refine .inr (.inl ⟨hr, ⟨y, hy, e⟩, ?_⟩)
        rw [deadIf_in hy e] at hm
        cases hm; rfl
      · have hk' : ∀ y ∈ b, y.k ≠ x.1 := fun y hy e => hk ⟨y, hy, e⟩
        rw [deadIf_out hk'] at hm
        cases hm
        exact .inl ⟨x.1, .inl ⟨hr, rfl, hk'⟩, hx, .inl (hfresh x hx).2⟩
    · by_cases hy : ∃ y ∈ b, y.n = m
      · obtain ⟨y, hy, rfl⟩ := hy
        rw [hB y hy] at hm
        cases hm
        obtain ⟨kv0, h⟩ := hbl y hy
        exact .inl ⟨y.k, .inr ⟨hr, y, hy, rfl, rfl⟩, (b2 y hy).1, .inr ⟨kv0, _, _, h, Nat.lt_succ_self _, Nat.lt_succ_self _⟩⟩
      · have ho : Old b n0 n1 m := ⟨hr, fun y hy' e => hy ⟨y, hy', e⟩⟩
        rw [hold m ho] at hm
        split at hm
        · cases hm
        · exact .inr (.inr ⟨ho, by assumption, hm⟩)
  have mu2 : ∀ m, ¬ (n0 ≤ m ∧ m < n1) → μ2 m = μ m := fun m h => N.mu m (by omega)
  have upgs : ∀ n ∈ gs, ∃ kv p q, σ.sto n = .live kv p q ∧ (s' n = .gone ∨ ∃ kv' p' q', s' n = .live kv' p' q' ∧ p < p' ∧ q < q') := fun n hn => by
    obtain ⟨kv, p, q, e⟩ := hgs n hn
    refine ⟨kv, p, q, e, ?_⟩
    have hr := nrng n (by rw [e]; simp)
    by_cases hy : ∃ y ∈ b, y.n = n
    · obtain ⟨y, hy, rfl⟩ := hy
      obtain ⟨kv0, h⟩ := hbl y hy
      rw [h] at e
      cases e
      exact .inr ⟨_, _, _, hB y hy, Nat.lt_succ_self _, Nat.lt_succ_self _⟩
    · exact .inl (by rw [hold n ⟨hr, fun y hy' e => hy ⟨y, hy', e⟩⟩, if_pos hn])
  have hsub : ∀ k j, own2 k j → j < w'.heap.size ∧ (ownBy own gs j ∨ w.heap.size ≤ j) := fun k j h => hS j (N.sub k j h)
  have T : Turn σ.sto s' w w' μ μ2 own (ownC b n0 n1 own own2) := by
    refine ⟨hsz, fun n hn => mu2 n (nrng n hn), fun n hn => ?_, fun j hj hch => ?_, fun n kv' p' q' hn j hj ho => ?_⟩
    · have hr := nrng n hn
      by_cases hy : ∃ y ∈ b, y.n = n
      · obtain ⟨y, hy, rfl⟩ := hy
        obtain ⟨kv0, h⟩ := hbl y hy
        exact .inr (.inr ⟨_, _, _, _, _, _, h, hB y hy, Nat.lt_succ_self _, Nat.le_succ _⟩)
      · rw [hold n ⟨hr, fun y hy' e => hy ⟨y, hy', e⟩⟩]
        split
        · exact .inr (.inl rfl)
        · exact .inl rfl
    · have hg : ownBy own gs j := Classical.byContradiction fun h => hch (hfr j hj h)
      obtain ⟨n, hn, ho⟩ := hg
      obtain ⟨kv, p, q, e, h⟩ := upgs n hn
      exact ⟨n, kv, p, q, e, ho, h.imp id fun ⟨kv', p', q', h1, h2, h3⟩ => ⟨kv', p', q', h1, h2, .inl h3⟩⟩
    · rcases ho with ⟨k, hk, ho⟩ | ⟨hk, ho⟩
      · obtain ⟨m, hm, hom⟩ := (hsub k j ho).2.resolve_right (by omega)
        obtain ⟨kv, p, q, e, h⟩ := upgs m hm
        exact ⟨m, kv, p, q, e, hom, .inr h⟩
      · rcases kind n kv' p' q' hn with ⟨k, h, _⟩ | ⟨h, _⟩ | ⟨_, _, h⟩
        · exact absurd hk h.old
        · exact absurd h hk.1
        · exact ⟨n, _, _, _, h, ho, .inl rfl⟩
  have keep : ∀ {S' : Blk} {M : Nat → Prop} {L : Nat × Nat → Prop}, (∀ x, L x → known σ.sto x) → Keeps ((mid σ.sto s' w w' μ own).mu μ2) (ctx s' w' μ2 (ownC b n0 n1 own own2)) S' M L := by
    intro S' M L hL
    refine ⟨fun _ _ => rfl, fun ls _ h => h, fun ls b hls hok hro => ⟨?_, rfl⟩, fun _ _ => rfl⟩
    exact ((T.keeps (S := noBlk) (N := fun _ => False) (L := L) I.low (fun _ h => h.elim) (fun _ h => h.elim) hL).ro ls b hls hok hro).1
  have saysl : ∀ m, (∃ y ∈ l, y.1 = m) → s' m ≠ .fresh := fun m ⟨y, hy, e⟩ => by rw [← e, hin y hy]; simp
  have old_live : ∀ m kv p q, s' m = .live kv p q → Old b n0 n1 m → m ∉ gs ∧ σ.sto m = .live kv p q := fun m kv p q hm ho => by
    rcases kind m kv p q hm with ⟨k, h, _⟩ | ⟨h, _⟩ | ⟨_, h⟩
    · exact absurd ho h.old
    · exact absurd h ho.1
    · exact h
  have apart : ∀ m, (s' m).lives → Old b n0 n1 m → ∀ k j, own2 k j → ¬ own m j := fun m ⟨kv, p, q, hm⟩ ho k j hk hj => by
    obtain ⟨h1, h2⟩ := old_live m kv p q hm ho
    have hlt := (I.bound m kv p q h2 j hj).1
    obtain ⟨g, hg, hog⟩ := (hsub k j hk).2.resolve_right (by omega)
    exact I.ents.disj g m (hgs g hg) ⟨_, _, _, h2⟩ (fun e => h1 (e ▸ hg)) j hog hj
  have I' : Inv F ⟨σ.env, s'⟩ a w' μ2 (ownC b n0 n1 own own2) := by
    refine I.turn T hos (fun n hn => ?_) (fun n kv p q hn he => ?_) (fun n kv p q hn he => ?_) (fun n m hn hm hne j hj hj' => ?_)
    · have hr : ¬ (n0 ≤ n ∧ n < n1) := fun hr => by have := (frσ n hr).1; omega
      have hf := I.low n hn
      rw [hold n ⟨hr, fun y hy e => by obtain ⟨kv, h⟩ := hbl y hy; rw [e, hf] at h; cases h⟩, if_neg, hf]
      intro hg
      obtain ⟨_, _, _, e⟩ := hgs n hg
      rw [hf] at e; cases e
    · rcases kind n kv p q hn with ⟨k, h, _, h3⟩ | ⟨h, _⟩ | ⟨h, _⟩
      · exfalso
        rw [hn] at he
        rcases h3 with h3 | ⟨kv0, p0, q0, h3, h4, _⟩
        · rw [h3] at he; cases he
        · rw [h3] at he; cases he; omega
      · exfalso
        rw [hn, (frσ n h).2] at he; cases he
      · exact ownC_old h
    · rcases kind n kv p q hn with ⟨k, h, hkl, _⟩ | ⟨hr, ⟨y, hy, hyk⟩, rfl⟩ | ⟨_, _, h⟩
      · obtain ⟨k1, k2⟩ := N.K _ hkl
        rw [ownC_src b1 h]
        have hμ : μ2 n = μ2 k := by
          rcases h with ⟨_, rfl, _⟩ | ⟨hr, y, hy, rfl, rfl⟩
          · rfl
          · rw [mu2 _ hr]; exact (b3 _ _ _ _ _ _ hio N.here.2 y hy).symm
        rw [hμ]
        refine ⟨K_keep _ _ _ _ _ (keep fun z hz => hknown z (hfull.2 _ hkl z hz)) k1, fun j hj => ⟨(hsub k j hj).1, ?_⟩, fun m hm => ?_, fun z hz => known_turn T (hknown z (hfull.2 _ hkl z hz))⟩
        · rcases (hsub k j hj).2 with ⟨g, hg, hog⟩ | h
          · obtain ⟨kv0, p0, q0, e0⟩ := hgs g hg
            exact (I.bound g _ _ _ e0 j hog).2
          · exact .inr (Nat.le_trans I.size h)
        · rcases k2 m hm with h | h
          · exact absurd h (hno m)
          · exact saysl m h
      · obtain ⟨x, hx, hxn⟩ := N.full n hr.1 hr.2
        have hone := K_one _ _ _ _ _ (N.K x hx).1 _ (List.mem_singleton.2 rfl)
        rw [hxn] at hone
        have hown : ∀ j, ¬ ownC b n0 n1 own own2 n j := fun j hj => by
          rcases hj with ⟨k, hk, _⟩ | ⟨hk, _⟩
          · rcases hk with ⟨_, rfl, hk⟩ | ⟨hk, _⟩
            · exact hk y hy hyk
            · exact hk hr
          · exact hk.1 hr
        cases b with
        | nil => cases hy
        | cons y0 bs =>
          obtain ⟨kv0, e0⟩ := hbl y0 List.mem_cons_self
          have e1 := hB y0 List.mem_cons_self
          refine ⟨⟨μ2 n, rfl, hone, fun hok => ?_⟩, fun j hj => absurd hj (hown j), fun m hm => hm.elim, fun z hz => ?_⟩
          · exfalso
            have hok : okLoans s' [(y0.n, 2 * y0.ver)] = true := hok
            simp only [okLoans, List.all_cons, List.all_nil, Bool.and_true] at hok
            obtain ⟨kv1, p1, q1, e2, h2⟩ := okLoan_live hok rfl (Nat.lt_of_not_le fun h => by rw [I.low _ h] at e0; cases e0)
            rw [e1] at e2
            cases e2
            dsimp only at h2
            omega
          · have hz : z ∈ [(y0.n, 2 * y0.ver)] := hz
            obtain rfl := List.mem_singleton.1 hz
            refine .inr ?_
            show (s' y0.n).knows (2 * y0.ver)
            rw [e1]
            exact ⟨fun _ => by omega, fun h => by omega⟩
      · exact absurd (hn.trans h.symm) he
    · rcases hj with ⟨k, hk, hj⟩ | ⟨hk, hj⟩ <;> rcases hj' with ⟨k', hk', hj'⟩ | ⟨hk', hj'⟩
      · exact N.disj k k' (ksrc hk).1 (ksrc hk).2 (ksrc hk').1 (ksrc hk').2 (fun e => hne (hk.inj b1 (e ▸ hk'))) j hj hj'
      · exact apart m hm hk' k j hj hj'
      · exact apart n hn hk k' j hj' hj
      · obtain ⟨kv1, p1, q1, e1⟩ := hn
        obtain ⟨kv2, p2, q2, e2⟩ := hm
        exact I.ents.disj n m ⟨_, _, _, (old_live _ _ _ _ e1 hk).2⟩ ⟨_, _, _, (old_live _ _ _ _ e2 hk').2⟩ hne j hj hj'
  cases dst with
  | none =>
    obtain rfl := Option.some.inj ha
    exact ⟨μ2, _, I'⟩
  | some d1 =>
    obtain rfl := Option.some.inj ha
    refine ⟨μ2, _, I'.put (kv := some _) (hf d1 rfl) fun kv' hk => ?_⟩
    obtain rfl := Option.some.inj hk
    refine ⟨KT_keep _ _ _ _ _ (keep fun z hz => hknown z (hfull.1 z (Ow.lns_fst hz))) N.here.1, fun m hm => ?_, fun z hz => known_turn T (hknown z (hfull.1 z (Ow.lns_fst hz)))⟩
    rcases N.says m (Ow.says_fst hm) with h | h
    · exact absurd h (hno m)
    · exact saysl m h
end Go.Proofs.YtlffjoabajdfnaaGreat.Eng
/- Which operations are calls. No condition. -/
set_option linter.unusedSectionVars false
set_option linter.unusedVariables false
namespace Go.Proofs.YtlffjoabajdfnaaGreat.Eng
section
variable [Tys] [Cx]
variable {s : Nat → Slot} {env : Nat → Option KV} {d : Nat} {rid : Rid}
def OpR.isCall : OpR → Bool
  | .call .. => true
  | _ => false
theorem nc_cond {b : Bool} {x y : OpR} (hx : x.isCall = false) (hy : y.isCall = false) : (bif b then x else y).isCall = false := by cases b <;> assumption
theorem nc_ofOpt {x : Option KV} : (ofOpt x).isCall = false := by cases x <;> rfl
theorem nc_pick {c x y : Option KV} : (pickR c x y).isCall = false := by
  unfold pickR
  repeat' split
  all_goals first | rfl | exact nc_ofOpt
theorem nc_build {t : Ty} {ps : List (Nat × Operand)} : (buildR d env t ps).isCall = false := by
  unfold buildR
  repeat' split
  all_goals rfl
theorem nc_buildSlice {t : Ty} {len : Nat} {ps : List (Nat × Operand)} : (buildSliceR d env s t len ps).isCall = false := by
  unfold buildSliceR
  split
  · refine nc_cond ?_ rfl
    repeat' split
    all_goals rfl
  · rfl
theorem nc_make {e : Ty} {eb : Nat} {l c : KV} : (makeSliceR d e eb l c).isCall = false := by
  unfold makeSliceR
  repeat' split
  all_goals first | rfl | exact nc_cond rfl rfl
theorem nc_load {t : Ty} {a : KV} : (loadR s t a).isCall = false := by
  unfold loadR
  repeat' split
  all_goals try rfl
  all_goals refine nc_cond ?_ rfl
  all_goals first | rfl | (split <;> rfl)
theorem nc_store {a x : KV} : (storeR s a x).isCall = false := by
  unfold storeR
  repeat' split
  all_goals try rfl
  all_goals exact nc_cond rfl rfl
theorem nc_nil {a : KV} : (nilCheckR s a).isCall = false := by
  unfold nilCheckR
  repeat' split
  all_goals first | rfl | exact nc_cond rfl rfl
theorem nc_int {op : BinOp} {k : IntKind} {x y : Int} : (intOp op k x y).isCall = false := by cases op <;> rfl
theorem nc_str {op : BinOp} {x y : ByteArray} : (strOp op x y).isCall = false := by cases op <;> rfl
theorem nc_bin {t : Option Ty} {op : BinOp} {x y : KV} : (binOpR t op x y).isCall = false := by
  unfold binOpR
  repeat' split
  all_goals first | rfl | exact nc_int | exact nc_str
theorem nc_un {op : UnOp} {x : KV} : (unOpR op x).isCall = false := by
  unfold unOpR
  repeat' split
  all_goals rfl
theorem nc_conv {t u : Ty} {x : KV} : (convR s t u x).isCall = false := by
  unfold convR bytesR
  repeat' split
  all_goals rfl
theorem nc_slice {x : KV} {lo hi : Option Int} : (sliceR s x lo hi).isCall = false := by
  unfold sliceR
  repeat' split
  all_goals first | rfl | exact nc_cond rfl rfl
theorem nc_take {t : Ty} {n off rs i : Nat} : (takeR d s t n off rs i).isCall = false := by
  unfold takeR
  repeat' split
  all_goals rfl
theorem nc_hole {t : Ty} {n off rs i : Nat} : (holeR d s t n off rs i).isCall = false := by
  unfold holeR
  split
  · refine nc_cond ?_ rfl
    dsimp only
    split <;> rfl
  · rfl
theorem nc_name {t : Ty} {n off : Nat} : (nameR d s t n off).isCall = false := by
  unfold nameR
  split
  · split
    · refine nc_cond ?_ rfl
      dsimp only
      split
      · split <;> rfl
      · rfl
    · rfl
  · rfl
theorem nc_loadT {t : Ty} {a : KV} {tk hl : Nat → Bool} : (loadT tk hl d s t a).isCall = false := by
  unfold loadT
  split
  · exact nc_cond nc_take (nc_cond nc_hole nc_load)
  · split
    · exact nc_name
    · exact nc_load
  · split
    · exact nc_name
    · exact nc_load
  · exact nc_load
theorem nc_sliceT {x : KV} {lo hi : Option Int} {tk : Nat → Bool} : (sliceT tk d s x lo hi).isCall = false := by
  unfold sliceT
  split
  · refine nc_cond ?_ nc_slice
    unfold cutR
    repeat' split
    all_goals rfl
  · exact nc_slice
theorem nc_fieldAddr {t : Ty} {x : KV} {f : Nat} : (fieldAddrR t x f s).isCall = false := by
  unfold fieldAddrR
  repeat' split
  all_goals try rfl
  all_goals refine nc_cond ?_ rfl
  all_goals repeat' split
  all_goals rfl
theorem nc_field {x : KV} {f : Nat} : (fieldR x f).isCall = false := by
  unfold fieldR
  repeat' split
  all_goals rfl
theorem nc_indexAddr {x y : KV} : (indexAddrR s x y).isCall = false := by
  unfold indexAddrR
  repeat' split
  all_goals first | rfl | exact nc_cond rfl rfl
theorem nc_index {x y : KV} : (indexR x y).isCall = false := by
  unfold indexR
  repeat' split
  all_goals rfl
theorem nc_append {c : Ty} {eb : Nat} {x y : KV} : (appendR d s c eb x y).isCall = false := by
  unfold appendR
  dsimp only
  repeat' split
  all_goals try rfl
  all_goals refine nc_cond rfl ?_
  all_goals first | rfl | (split <;> rfl)
theorem nc_mm {f : Int → Int → Int} {x y : KV} : (mm f x y).isCall = false := by
  unfold mm
  repeat' split
  all_goals rfl
theorem opR0_call {o : Oper} {f : Nat} {args : List KV} {rt : Ty} {ro : Ow} {kk : D rt → Option Eff} (h : opR0 rid env s o = .call f args rt ro kk) :
    ∃ c x f0 as, o.op = .call c ∧ c.callee = .value x ∧ fnOf (val env x none) = some f0 ∧ argVals env c.args.toList c.argTypes.toList = some as ∧ callR (nbase rid o) s f0 as = .call f args rt ro kk := by
  have nc : ∀ {x : OpR}, x = .call f args rt ro kk → x.isCall = false → False := fun h1 h2 => by rw [h1] at h2; cases h2
  unfold opR0 at h
  dsimp only at h
  split at h
  case h_21 c hop =>
    split at h
    case h_5 x hc =>
      split at h
      · rename_i f0 as hx has
        exact ⟨c, x, f0, as, hop, hc, hx, has, h⟩
      · cases h
    all_goals exfalso
    all_goals repeat' split at h
    all_goals first | (cases h; done) | exact nc h nc_ofOpt | exact nc h nc_mm | exact nc h (nc_cond nc_append rfl)
  all_goals exfalso
  all_goals repeat' split at h
  all_goals first | (cases h; done) | exact nc h nc_ofOpt | exact nc h nc_pick | exact nc h nc_build | exact nc h nc_buildSlice | exact nc h nc_loadT | exact nc h nc_make | exact nc h nc_store | exact nc h nc_nil | exact nc h (by rw [OpR.hide_is, Bool.cond_self]; exact nc_bin) | exact nc h nc_un | exact nc h nc_conv | exact nc h nc_sliceT | exact nc h nc_fieldAddr | exact nc h nc_field | exact nc h nc_indexAddr | exact nc h nc_index | exact nc h (nc_cond rfl rfl)
end
end Go.Proofs.YtlffjoabajdfnaaGreat.Eng
/- Calls are as the oracle says. No condition. -/
set_option linter.unusedSectionVars false
set_option linter.unusedVariables false
namespace Go.Proofs.YtlffjoabajdfnaaGreat.Eng
section
variable [Tys] [Cx]
structure CallSem (f : Nat) (args : List KV) (rt : Ty) (ro : Ow) (r : D rt) : Prop where
  enter : ∀ vs w, (callFunc f vs).run Cx.P w = .ok (.enter f vs) w
  calls : ∀ (g : Sig), Cx.SG f = some g → ∀ (R : Rb) (w : World) (vs : List Value) (S : Blk), KTs (@ctx0 _ R w) (packA args).t (packA args).o (packA args).v vs S → (packA args).o.allL parOnly = true →
    (∀ b, S b → b < w.heap.size ∧ ∀ l, ¬ R.RB l b) → Calls Cx.P f vs.toArray w fun e w' => ∃ v, e = .returned v ∧ @Back _ R ⟨w, S, iosAt g.modes 0, fun p => vs.toArray.getD p undef⟩ rt ro r v w'
theorem fnOf_eval [Rb] {F : Fr} {σ : St} {a : Act} {w : World} {μ : Nat → Value} {own : Nat → Blk} {o : Oper} (I : Inv F σ a w μ own) {x : Operand} {f : Nat} (h : fnOf (val (envAt σ.env o) x none) = some f) : a.eval x = .func (.func f) #[] #[] := by
  unfold fnOf at h
  split at h
  · rename_i f' c v ow hx
    obtain rfl := Option.some.inj h
    have hk := (val_V I hx).kt
    exact List.singleton_inj.1 (show [a.eval x] = [Value.func (.func f') #[] #[]] from hk)
  · cases h
@[reducible] def rbOf (C : Wd) (s : Nat → Slot) (own : Nat → Blk) (gs : List Nat) (ls : List (List (Nat × Nat))) : Rb :=
  ⟨fun l b => PAR ≤ l ∧ ∃ L, ls[l - PAR]? = some L ∧ C.RO L b ∧ ∀ n ∈ gs, (s n).lives → ¬ own n b⟩
end
variable [Tys] [Rb] [Cx]
variable {F : Fr} {σ σ' : St} {a : Act} {w w' : World} {μ : Nat → Value} {own : Nat → Blk} {s : Nat → Slot} {C C' : Wd} {o : Oper}
theorem argVals_V (I : Inv F σ a w μ own) : ∀ (xs : List Operand) (ts : List TypeId) (as : List KV), argVals (envAt σ.env o) xs ts = some as → AllV (ctx σ.sto w μ own) σ.sto as (xs.map a.eval)
  | [], _, as, h => by obtain rfl := Option.some.inj h; trivial
  | x :: xs, t :: ts, as, h => by
    simp only [argVals] at h
    split at h
    · rename_i kv l h1 h2
      obtain rfl := Option.some.inj h
      exact ⟨val_V I h1, argVals_V I xs ts l h2⟩
    · cases h
  | _ :: _, [], _, h => by cases h
theorem iosOf_hd (hd : Nat → Value) : ∀ (ms : List Mode) (as : List KV) (vs : List Value) (ns : List KV) (p : Nat), iosOf ms as = some ns → AllV C s as vs → (∀ j v, vs[j]? = some v → hd (p + j) = v) →
    AllV C s ns ((iosAt ms p).map hd)
  | [], [], vs, ns, p, h, _, _ => by obtain rfl : [] = ns := by simpa [iosOf] using h
                                     trivial
  | m :: ms, k :: as, vs, ns, p, h, hv, hh => by
    cases vs with
    | nil => exact hv.elim
    | cons v vs =>
      obtain ⟨hv1, hv2⟩ := hv
      have hh' : ∀ j v', vs[j]? = some v' → hd (p + 1 + j) = v' := fun j v' hj => by
        have := hh (j + 1) v' hj
        rw [← this]; congr 1; omega
      cases m with
      | bor => exact iosOf_hd hd ms as vs ns (p + 1) h hv2 hh'
      | own => exact iosOf_hd hd ms as vs ns (p + 1) h hv2 hh'
      | io =>
        simp only [iosOf] at h
        split at h
        · rename_i l hl
          obtain rfl := Option.some.inj h
          have h0 : hd p = v := hh 0 v rfl
          refine ⟨?_, iosOf_hd hd ms as vs l (p + 1) hl hv2 hh'⟩
          rw [h0]; exact hv1
        · cases h
  | [], _ :: _, _, _, _, h, _, _ => by cases h
  | .bor :: _, [], _, _, _, h, _, _ => by cases h
  | .own :: _, [], _, _, _, h, _, _ => by cases h
  | .io :: _, [], _, _, _, h, _, _ => by cases h
theorem callOk_of {orc : CallO} (H : ∀ f args rt ro r, orc f args rt ro = some r → CallSem f args rt ro r) : CallOk orc := by
  intro rid F σ a w o hI hf f args rt ro kk r e hop hr hk hc σ' ha K Q hK
  obtain ⟨μ, own, I⟩ := hI
  unfold opR at hop
  obtain ⟨c, x0, f0, as, ho, hcal, hx0, has, hcall⟩ := opR0_call hop
  have hev := fnOf_eval I hx0
  generalize touchOf σ.env σ.sto o = T at hcall
  have hs : Under (within σ.sto T) σ.sto := fun n kv p q h => within_live h
  unfold callR at hcall
  split at hcall
  · cases hcall
  · rename_i g hg
    split at hcall
    · rename_i xs gs ls ns hargs hios
      cases hb : (ls.all (okLoans (updAll (within σ.sto T) (goneAll gs))) && g.ro.allL parOnly) with
      | false => rw [hb] at hcall; cases hcall
      | true =>
        rw [hb] at hcall
        simp only [cond_true] at hcall
        cases hcall
        simp only [Bool.and_eq_true] at hb
        obtain ⟨hfin, hro⟩ := hb
        have hu : Under (updAll (within σ.sto T) (goneAll gs)) (within σ.sto T) := fun n kv p q h => by
          rw [updAll_gone] at h
          split at h
          · cases h
          · exact h
        have hok : ∀ L ∈ ls, okLoans (updAll (within σ.sto T) (goneAll gs)) L = true := List.all_eq_true.1 hfin
        have hokσ : ∀ L ∈ ls, okLoans σ.sto L = true := fun L hL => okLoans_under hs (okLoans_under hu (hok L hL))
        have lent : ∀ j l, ls[j]? = some l → Lent (ctx σ.sto w μ own) (@ctx0 _ (rbOf (ctx σ.sto w μ own) σ.sto own gs ls) w) l [(PAR + j, 0)] := fun j l hj => by
          have hL := List.mem_of_getElem? hj
          refine ⟨rfl, fun b hb => ⟨hb.1, fun n kv p q hn => (by cases (show Slot.fresh = .live kv p q from hn)), fun _ => ⟨_, List.mem_singleton.2 rfl, Nat.le_add_right _ _, l, ?_, hb, fun n hn ⟨kv, p, q, e⟩ ho => ?_⟩⟩⟩
          · show ls[PAR + j - PAR]? = some l
            rw [Nat.add_sub_cancel_left]; exact hj
          · obtain ⟨x, hx, hx1, _⟩ := hb.2.1 n kv p q e ho
            have hlt : n < PAR := Nat.lt_of_not_le fun h => by rw [I.low n h] at e; cases e
            obtain ⟨kv', p', q', e', _⟩ := okLoan_live (List.all_eq_true.1 (hok l hL) x hx) hx1 hlt
            rw [updAll_gone, if_pos hn] at e'
            cases e'
        have hV := argVals_V I _ _ _ has
        obtain ⟨k1, k2, k3⟩ := argsOf_K (C' := @ctx0 _ (rbOf (ctx σ.sto w μ own) σ.sto own gs ls) w) I _ _ 0 _ _ _ _ _ hargs hV hs fun j l hj => ⟨hokσ l (List.mem_of_getElem? hj), by rw [Nat.zero_add]; exact lent j l hj⟩
        have hgs : ∀ n ∈ gs, (σ.sto n).lives := fun n hn => by
          obtain ⟨kv, p, q, e⟩ := k3 n hn
          exact ⟨kv, p, q, hs _ _ _ _ e⟩
        have S := H _ _ _ _ _ hr
        have hlt : ∀ b, ownBy own gs b → b < w.heap.size := fun b ⟨n, hn, ho⟩ => by
          obtain ⟨kv, p, q, e⟩ := hgs n hn
          exact (I.bound n kv p q e b ho).1
        have hcalls := S.calls g hg (rbOf (ctx σ.sto w μ own) σ.sto own gs ls) w _ _ k1 k2 fun b hb => ⟨hlt b hb, fun l hl => by
          obtain ⟨_, L, _, _, h⟩ := hl
          obtain ⟨n, hn, ho⟩ := hb
          exact h n hn (hgs n hn) ho⟩
        unfold Oper.wp
        have hexec : (execOp a.eval o).run Cx.P w = .ok (.enter f (c.args.toList.map a.eval).toArray) w := by
          have e1 : execOp a.eval o = callFunc f (#[] ++ c.args.map a.eval ++ #[]) := by
            obtain ⟨dst, op, type, pos, after, guard⟩ := o
            obtain ⟨callee, xs, ats⟩ := c
            dsimp only at ho hcal
            subst ho
            subst hcal
            unfold execOp
            dsimp only
            unfold resolve
            dsimp only
            rw [hev]
            rfl
          rw [e1, S.enter]
          congr 2
          apply Array.ext'
          simp
        rw [hexec, Oper.upon_enter]
        intro cs
        obtain ⟨e0, w', fr, ⟨v, rfl, hB⟩, h2, h3, h4⟩ := hcalls cs
        refine ⟨.returned v, w', fr, ?_, h2, h3, h4⟩
        refine hK v w' ?_
        have lsk : ∀ L ∈ ls, ∀ l ∈ L, known σ.sto l := fun L hL l hl => by
          have := List.all_eq_true.1 (hokσ L hL) l hl
          by_cases hp : PAR ≤ l.1
          · exact .inl hp
          · obtain ⟨kv, p, q, e1, e2⟩ := okLoan_live this rfl (Nat.lt_of_not_le hp)
            refine .inr ?_
            rw [e1]
            exact ⟨fun h => by omega, fun h => by omega⟩
        have hh := iosOf_hd (fun p => (c.args.toList.map a.eval).toArray.getD p undef) _ _ _ _ 0 hios hV fun j v hj => by
          rw [Nat.zero_add, Array.getD_eq_getD_getElem?]
          simp only [List.getElem?_toArray, hj, Option.getD_some]
        revert hk hB r
        generalize g.rt = rt
        intro r hr hk S hcalls hB
        cases rt with
        | pair t ts =>
          obtain ⟨S1, S2, b1, b2, b3, b4, b5, b6, b7, b8, b9⟩ := hB
          exact back_inv I hs hgs hk hro lsk (c0 := @ctx0 _ (rbOf (ctx σ.sto w μ own) σ.sto own gs ls) w') rfl (fun L hL => List.all_eq_true.2 fun x hx => by unfold okLoan; rw [List.all_eq_true.1 hL x hx]; rfl)
            (fun L b hL hro => by
              obtain ⟨_, _, h3⟩ := hro
              obtain ⟨l, hl, _, L', h4, h5, _⟩ := h3 fun l hl => Nat.le_of_ble_eq_true (List.all_eq_true.1 hL l hl)
              exact ⟨l, hl, L', h4, h5⟩) b1 b2 hh b3 b4 ⟨b5, b6, b7⟩ b8 b9 hf ha
        | _ => exact hB.elim
    · cases hcall
end Go.Proofs.YtlffjoabajdfnaaGreat.Eng
/- The evaluator's run: what it says holds of the machine. No condition. -/
set_option linter.unusedSectionVars false
set_option linter.unusedVariables false
namespace Go.Proofs.YtlffjoabajdfnaaGreat.Eng
variable [Tys] [Cx]
theorem run_enter {P : Program} {f : FuncId} {fn : Func} {c : Code} (hf : P.funcs[f]? = some fn) (hname : (fn.name == "runtime.NumGoroutine") = false) (hb : fn.body = some c) (args : Array Value) (w : World) :
    (callFunc f args).run P w = .ok (.enter f args) w := by
  have h1 : fn.name ≠ "runtime.NumGoroutine" := by simpa using hname
  simp [callFunc, hf, h1, hb]
theorem packA_len {C : Wd} : ∀ (args : List KV) (vs : List Value) (S : Blk), KTs C (packA args).t (packA args).o (packA args).v vs S → vs.length = args.length
  | [], vs, S, h => by
    have h : vs = [] := h
    rw [h]; rfl
  | a :: as, vs, S, h => by
    obtain ⟨y, ys, S1, S2, rfl, _, h2, _⟩ := h
    have h2' : KTs C (packA as).t (Ow.mk a.o (packA as).o).snd (packA as).v ys S2 := h2
    rw [Ow.snd_mk] at h2'
    simp [packA_len as ys S2 h2']
theorem getD_pad (vs : Array Value) (n p : Nat) : (vs ++ Array.replicate n undef).getD p undef = vs.getD p undef := by
  rw [Array.getD_eq_getD_getElem?, Array.getD_eq_getD_getElem?, Array.getElem?_append]
  split
  · rfl
  · rename_i h
    rw [Array.getElem?_eq_none (Nat.le_of_not_lt h)]
    rw [Array.getElem?_replicate]
    split <;> rfl
def ReqSem : (q : Req) → D q.rt → Prop
  | .call f args rt ro, r => CallSem f args rt ro r
  | .head f todo h rt ro, r => ∀ (R : Rb) (F : Fr) (a : Act) (w : World) (g : Sig) (fn : Func), Cx.FT f = some fn → Cx.SG f = some g → F.ps = iosAt g.modes 0 → @InvE _ R F h.st a w → a.tmps.size = fn.ntmps → Ends f todo a w (@Back _ R F rt ro r)
theorem step_call {orc : (q : Req) → Option (D q.rt)} {f : Nat} {args : List KV} {rt : Ty} {ro : Ow} {r : D rt} (h : stepCall orc f args rt ro = some r) : ∃ fn g c, Cx.FT f = some fn ∧ Cx.SG f = some g ∧ fn.body = some c ∧
    (Nat.ble (entryX args).2.2.2 PAR && Nat.ble args.length fn.ntmps && (packA args).o.allL parOnly) = true ∧ ev (fun f a rt ro => orc (.call f a rt ro)) (fun t h rt ro => orc (.head f t h rt ro)) f fn g.modes rt ro FUEL true [.code c] (entry args) = some r := by
  unfold stepCall at h
  cases hf : Cx.FT f with
  | none => rw [hf] at h; cases h
  | some fn =>
    cases hg : Cx.SG f with
    | none => rw [hf, hg] at h; cases h
    | some g =>
      rw [hf, hg] at h
      dsimp only at h
      cases hc : fn.body with
      | none => rw [hc] at h; cases h
      | some c =>
        rw [hc] at h
        dsimp only at h
        cases hb : (Nat.ble (entryX args).2.2.2 PAR && Nat.ble args.length fn.ntmps && (packA args).o.allL parOnly) with
        | false => rw [hb] at h; cases h
        | true => rw [hb] at h; exact ⟨fn, g, c, rfl, rfl, hc, hb, h⟩
theorem step_head {orc : (q : Req) → Option (D q.rt)} {f : Nat} {todo : List Item} {hs : HS} {rt : Ty} {ro : Ow} {r : D rt} (h : stepHead orc f todo hs rt ro = some r) : ∃ fn g, Cx.FT f = some fn ∧ Cx.SG f = some g ∧
    ev (fun f a rt ro => orc (.call f a rt ro)) (fun t h rt ro => orc (.head f t h rt ro)) f fn g.modes rt ro FUEL true todo hs.st = some r := by
  unfold stepHead at h
  cases hf : Cx.FT f with
  | none => rw [hf] at h; cases h
  | some fn =>
    cases hg : Cx.SG f with
    | none => rw [hf, hg] at h; cases h
    | some g => rw [hf, hg] at h; exact ⟨fn, g, rfl, rfl, h⟩
theorem step_sem (G : Good) {orc : (q : Req) → Option (D q.rt)} (H : ∀ q r, orc q = some r → ReqSem q r) : ∀ q r, step orc q = some r → ReqSem q r := by
  have body : ∀ (R : Rb) (F : Fr) (f : Nat) (fn : Func) (g : Sig), Cx.FT f = some fn → Cx.SG f = some g → F.ps = iosAt g.modes 0 →
      @BodyOk _ R _ F f fn g.modes (fun f a rt ro => orc (.call f a rt ro)) (fun t h rt ro => orc (.head f t h rt ro)) (@Back _ R F) := fun R F f fn g hf hg hps =>
    ⟨(G.ft f fn hf).1, hps, callOk_of fun f' args rt ro r hr => H (.call f' args rt ro) r hr, fun σ a w rt ro r I h => ret_back G hps I h, fun σ a w live I => I.stop live,
      fun todo h rt ro r a w hr I hsz => H (.head f todo h rt ro) r hr R F a w g fn hf hg hps I hsz⟩
  intro q r h
  cases q with
  | call f args rt ro =>
    obtain ⟨fn, g, c, hf, hg, hc, hb, h⟩ := step_call h
    simp only [Bool.and_eq_true] at hb
    refine ⟨fun vs w => run_enter (G.ft f fn hf).1 (G.ft f fn hf).2 hc vs w, fun g' hg' R w vs S hk ho hS => ?_⟩
    rw [hg] at hg'
    obtain rfl := Option.some.inj hg'
    have hlen := packA_len args vs S hk
    have hle := Nat.le_of_ble_eq_true hb.1.2
    have I := @entry_inv _ R _ w args vs S (vs.toArray ++ Array.replicate (fn.ntmps - vs.toArray.size) undef) (iosAt g.modes 0) hk ho hS hb.1.1 (fun j y hj => by
      rw [getD_pad, Array.getD_eq_getD_getElem?]
      simp [hj])
    simp only [getD_pad] at I
    have E := ev_ends G (body R _ f fn g hf hg rfl) FUEL true [.code c] _ _ _ h I (by simp; omega)
    exact Ends.calls (G.ft f fn hf).1 hc E
  | head f todo hst rt ro =>
    obtain ⟨fn, g, hf, hg, h⟩ := step_head h
    intro R F a w g' fn' hf' hg' hps I hsz
    rw [hf] at hf'
    rw [hg] at hg'
    obtain rfl := Option.some.inj hf'
    obtain rfl := Option.some.inj hg'
    exact ev_ends G (body R F f fn g hf hg hps) FUEL true todo _ _ _ h I hsz
theorem run_sem (G : Good) : ∀ (k : Nat) (q : Req) (r : D q.rt), run k q = some r → ReqSem q r
  | 0, q, r, h => by cases h
  | k + 1, q, r, h => step_sem G (run_sem G k) q r h
end Go.Proofs.YtlffjoabajdfnaaGreat.Eng
/- The limit of the evaluator's runs, and its equation. No condition. -/
set_option linter.unusedSectionVars false
set_option linter.unusedVariables false
namespace Go.Proofs.YtlffjoabajdfnaaGreat.Eng
variable [Tys] [Cx]
def Ev (p : Nat → Prop) : Prop := ∃ N, ∀ n, N ≤ n → p n
theorem Ev.imp {p q : Nat → Prop} (h : Ev p) (k : ∀ n, p n → q n) : Ev q := by
  obtain ⟨N, h⟩ := h
  exact ⟨N, fun n hn => k n (h n hn)⟩
theorem Ev.and {p q : Nat → Prop} (h : Ev p) (k : Ev q) : Ev fun n => p n ∧ q n := by
  obtain ⟨N, h⟩ := h
  obtain ⟨M, k⟩ := k
  exact ⟨max N M, fun n hn => ⟨h n (by omega), k n (by omega)⟩⟩
theorem Ev.all {p : Nat → Prop} (h : ∀ n, p n) : Ev p := ⟨0, fun n _ => h n⟩
theorem conds_true {α : Type} {k : Option α} : ∀ {cs : List Bool}, (∀ b ∈ cs, b = true) → conds cs k = k
  | [], _ => rfl
  | c :: cs, h => by
    have h1 : c = true := h c List.mem_cons_self
    subst h1
    have h2 : ∀ b ∈ cs, b = true := fun b hb => h b (List.mem_cons_of_mem _ hb)
    exact conds_true (cs := cs) h2
theorem conds_some' {α : Type} {k : Option α} {y : α} : ∀ {cs : List Bool}, conds cs k = some y → (∀ b ∈ cs, b = true) ∧ k = some y
  | [], h => ⟨by simp, h⟩
  | c :: cs, h => by
    cases c with
    | false => cases h
    | true =>
      obtain ⟨h1, h2⟩ := conds_some' (cs := cs) (k := k) h
      exact ⟨fun b hb => by rcases List.mem_cons.1 hb with rfl | hb; rfl; exact h1 b hb, h2⟩
theorem conds_ev {α : Type} {k : Option α} {kn : Nat → Option α} {y : α} {cs : List Bool} (hk : k = some y → Ev fun n => kn n = some y) (h : conds cs k = some y) : Ev fun n => conds cs (kn n) = some y := by
  obtain ⟨h1, h2⟩ := conds_some' h
  exact (hk h2).imp fun n hn => by rw [conds_true h1]; exact hn
theorem evOps_ev {α : Type} {rid : Rid} {orc : CallO} {on : Nat → CallO} (H : ∀ f a rt ro r, orc f a rt ro = some r → Ev fun n => on n f a rt ro = some r) {all : List Oper} {draw : Bool} {k : St → Option α} {kn : Nat → St → Option α}
    (hk : ∀ σ y, k σ = some y → Ev fun n => kn n σ = some y) {y : α} : ∀ (os : List Oper) (tr : List Tr) (σ : St), evOps orc rid all draw os tr σ k = some y → Ev fun n => evOps (on n) rid all draw os tr σ (kn n) = some y
  | [], tr, σ, h => by
    simp only [evOps] at h ⊢
    cases draw with
    | false => exact hk σ y h
    | true =>
      cases hd : drawOk all tr.reverse with
      | false => rw [hd] at h; cases h
      | true => rw [hd] at h; exact hk σ y h
  | o :: os, tr, σ, h => by
    simp only [evOps] at h ⊢
    have skip : ∀ σ : St, evOps orc rid all draw os (⟨[], []⟩ :: tr) (σ.put? o.dst (some KV.nil)) k = some y → Ev fun n => evOps (on n) rid all draw os (⟨[], []⟩ :: tr) (σ.put? o.dst (some KV.nil)) (kn n) = some y := fun σ => evOps_ev H hk os _ _
    have fin : ∀ (σ : St) (e : Eff), conds e.conds (match e.apply o.dst σ with
          | some σ' => evOps orc rid all draw os (⟨bif draw then touchOf σ.env σ.sto o else [], e.wr⟩ :: tr) σ' k
          | none => none) = some y → Ev fun n => conds e.conds (match e.apply o.dst σ with
          | some σ' => evOps (on n) rid all draw os (⟨bif draw then touchOf σ.env σ.sto o else [], e.wr⟩ :: tr) σ' (kn n)
          | none => none) = some y := by
      intro σ e h
      refine conds_ev (fun h => ?_) h
      split at h
      · exact evOps_ev H hk os _ _ h
      · cases h
    have go : ∀ σ : St, (match opR rid σ.env σ.sto o with
        | .eff e => conds e.conds (match e.apply o.dst σ with
          | some σ' => evOps orc rid all draw os (⟨bif draw then touchOf σ.env σ.sto o else [], e.wr⟩ :: tr) σ' k
          | none => none)
        | .call f args rt ro kk => (orc f args rt ro).bind fun r => match kk r with
          | some e => conds e.conds (match e.apply o.dst σ with
            | some σ' => evOps orc rid all draw os (⟨bif draw then touchOf σ.env σ.sto o else [], e.wr⟩ :: tr) σ' k
            | none => none)
          | none => none
        | .bad => none) = some y → Ev fun n => (match opR rid σ.env σ.sto o with
        | .eff e => conds e.conds (match e.apply o.dst σ with
          | some σ' => evOps (on n) rid all draw os (⟨bif draw then touchOf σ.env σ.sto o else [], e.wr⟩ :: tr) σ' (kn n)
          | none => none)
        | .call f args rt ro kk => (on n f args rt ro).bind fun r => match kk r with
          | some e => conds e.conds (match e.apply o.dst σ with
            | some σ' => evOps (on n) rid all draw os (⟨bif draw then touchOf σ.env σ.sto o else [], e.wr⟩ :: tr) σ' (kn n)
            | none => none)
          | none => none
        | .bad => none) = some y := by
      intro σ h
      split at h
      · rename_i e he
        skip
        exact fin σ e h
      · rename_i f args rt ro kk he
        skip
        cases hr : orc f args rt ro with
        | none => rw [hr] at h; cases h
        | some r =>
          rw [hr] at h
          simp only [Option.bind_some] at h
          have h2 := H _ _ _ _ _ hr
          split at h
          · rename_i e hk
            refine (h2.and (fin σ e h)).imp fun n hn => ?_
            rw [hn.1]
            simp only [Option.bind_some, hk]
            exact hn.2
          · cases h
      · cases h
    cases hg : guardOf all σ.env o with
    | on =>
      rw [hg] at h
      exact go σ h
    | off =>
      rw [hg] at h
      exact skip σ h
    | bad => rw [hg] at h; cases h
    | ask g b ow want =>
      rw [hg] at h
      dsimp only at h ⊢
      cases b with
      | true =>
        cases want with
        | true => exact go _ h
        | false => exact skip _ h
      | false =>
        cases want with
        | true => exact skip _ h
        | false => exact go _ h
theorem ev_ev {orc : CallO} {on : Nat → CallO} {head : HeadO} {hn : Nat → HeadO} (H : ∀ f a rt ro r, orc f a rt ro = some r → Ev fun n => on n f a rt ro = some r)
    (Hh : ∀ todo h rt ro r, head todo h rt ro = some r → Ev fun n => hn n todo h rt ro = some r) {f : Nat} {fn : Func} {modes : List Mode} {rt : Ty} {ro : Ow} {r : D rt} :
    ∀ (m : Nat) (first : Bool) (todo : List Item) (σ : St), ev orc head f fn modes rt ro m first todo σ = some r → Ev fun n => ev (on n) (hn n) f fn modes rt ro m first todo σ = some r
  | 0, _, _, _, h => by cases h
  | m + 1, first, [], σ, h => Ev.all fun _ => h
  | m + 1, first, .inBlock _ :: k, σ, h => ev_ev H Hh m first k σ h
  | m + 1, first, .inLoop c :: k, σ, h => ev_ev H Hh m first _ σ h
  | m + 1, first, .code c :: k, σ, h => by
    cases c with
    | skip => exact ev_ev H Hh m first k σ h
    | label l => exact ev_ev H Hh m first k σ h
    | seq x y => exact ev_ev H Hh m first _ σ h
    | block id x => exact ev_ev H Hh m first _ σ h
    | loop x => exact ev_ev H Hh m first _ σ h
    | exit id =>
      simp only [ev] at h ⊢
      split at h
      · rename_i k' hk
        exact ev_ev H Hh m first k' σ h
      · cases h
    | ret => exact Ev.all fun _ => h
    | cond c x y =>
      simp only [ev] at h ⊢
      split at h
      · rename_i c' b ow t hv
        cases b with
        | true => exact ev_ev H Hh m first _ _ h
        | false => exact ev_ev H Hh m first _ _ h
      · cases h
    | region id ops draw =>
      simp only [ev] at h ⊢
      cases hfit : fitAll fn.ntmps (iosAt modes 0) ops.toList with
      | false => rw [hfit] at h; cases h
      | true =>
        rw [hfit] at h
        simp only [Bool.not_true, cond_false] at h ⊢
        have go : ∀ _ : Nat, evOps orc ⟨id, Cx.TAKE f id, Cx.HOLE f id⟩ ops.toList draw ops.toList [] σ (fun σ => match joinAll σ.sto (Cx.JOIN f id) with
          | some s => ev orc head f fn modes rt ro m false k ⟨σ.env, s⟩
          | none => none) = some r → Ev fun n => evOps (on n) ⟨id, Cx.TAKE f id, Cx.HOLE f id⟩ ops.toList draw ops.toList [] σ (fun σ => match joinAll σ.sto (Cx.JOIN f id) with
          | some s => ev (on n) (hn n) f fn modes rt ro m false k ⟨σ.env, s⟩
          | none => none) = some r := fun _ h =>
          evOps_ev H (fun σ y h => by
            split at h
            · rename_i s' hj
              exact ev_ev H Hh m false k ⟨σ.env, s'⟩ h
            · cases h) _ _ _ h
        cases first with
        | true => exact go 0 h
        | false =>
          simp only [cond_false] at h ⊢
          split at h
          · exact Hh _ _ _ _ _ h
          · exact go 0 h
    | _ => simp only [ev] at h; cases h
abbrev Orc := (q : Req) → Option (D q.rt)
theorem step_ev {L : Orc} {o : Nat → Orc} (H : ∀ q r, L q = some r → Ev fun n => o n q = some r) : ∀ q r, step L q = some r → Ev fun n => step (o n) q = some r := by
  intro q r h
  cases q with
  | call f args rt ro =>
    obtain ⟨fn, g, c, hf, hg, hc, hb, h⟩ := step_call (orc := L) h
    have := ev_ev (on := fun n f a rt ro => o n (.call f a rt ro)) (hn := fun n t h rt ro => o n (.head f t h rt ro)) (fun f a rt ro r h => H (.call f a rt ro) r h) (fun t h rt ro r hr => H (.head f t h rt ro) r hr) _ _ _ _ h
    refine this.imp fun n hn => ?_
    show stepCall (o n) f args rt ro = some r
    unfold stepCall
    rw [hf, hg]
    dsimp only
    rw [hc]
    dsimp only
    rw [hb]
    exact hn
  | head f todo hst rt ro =>
    obtain ⟨fn, g, hf, hg, h⟩ := step_head (orc := L) h
    have := ev_ev (on := fun n f a rt ro => o n (.call f a rt ro)) (hn := fun n t h rt ro => o n (.head f t h rt ro)) (fun f a rt ro r h => H (.call f a rt ro) r h) (fun t h rt ro r hr => H (.head f t h rt ro) r hr) _ _ _ _ h
    refine this.imp fun n hn => ?_
    show stepHead (o n) f todo hst rt ro = some r
    unfold stepHead
    rw [hf, hg]
    exact hn
theorem step_mono {L M : Orc} (H : ∀ q r, L q = some r → M q = some r) {q : Req} {r : D q.rt} (h : step L q = some r) : step M q = some r := by
  obtain ⟨N, hN⟩ := step_ev (o := fun _ => M) (fun q r h => Ev.all fun _ => H q r h) q r h
  exact hN N (Nat.le_refl N)
theorem run_succ : ∀ (k : Nat) (q : Req) (r : D q.rt), run k q = some r → run (k + 1) q = some r
  | 0, _, _, h => by cases h
  | k + 1, q, r, h => step_mono (L := run k) (M := run (k + 1)) (run_succ k) h
theorem run_le {k m : Nat} (h : k ≤ m) {q : Req} {r : D q.rt} (hr : run k q = some r) : run m q = some r := by
  induction h with
  | refl => exact hr
  | step _ ih => exact run_succ _ q r ih
open Classical in
noncomputable def lim (q : Req) : Option (D q.rt) := if h : ∃ r k, run k q = some r then some h.choose else none
theorem lim_run {q : Req} {r : D q.rt} : lim q = some r ↔ ∃ k, run k q = some r := by
  unfold lim
  constructor
  · intro h
    split at h
    · rename_i hx
      obtain rfl := Option.some.inj h
      exact hx.choose_spec
    · cases h
  · intro h
    have hx : ∃ r k, run k q = some r := ⟨r, h⟩
    rw [dif_pos hx]
    obtain ⟨k, hk⟩ := h
    obtain ⟨m, hm⟩ := hx.choose_spec
    have h1 := run_le (Nat.le_max_left k m) hk
    have h2 := run_le (Nat.le_max_right k m) hm
    rw [h1] at h2
    exact h2.symm
theorem lim_some {q : Req} {r : D q.rt} : lim q = some r ↔ step lim q = some r := by
  constructor
  · intro h
    obtain ⟨k, hk⟩ := lim_run.1 h
    cases k with
    | zero => cases hk
    | succ k => exact step_mono (L := run k) (fun q r h => lim_run.2 ⟨k, h⟩) hk
  · intro h
    obtain ⟨N, hN⟩ := step_ev (L := lim) (o := run) (fun q r h => by
      obtain ⟨k, hk⟩ := lim_run.1 h
      exact ⟨k, fun n hn => run_le hn hk⟩) q r h
    exact lim_run.2 ⟨N + 1, hN N (Nat.le_refl N)⟩
theorem lim_eq (q : Req) : lim q = step lim q := by
  cases h : step lim q with
  | some r => exact lim_some.2 h
  | none =>
    cases h2 : lim q with
    | none => rfl
    | some r => rw [lim_some.1 h2] at h; cases h
theorem lim_sem (G : Good) {q : Req} {r : D q.rt} (h : lim q = some r) : ReqSem q r := by
  obtain ⟨k, hk⟩ := lim_run.1 h
  exact run_sem G k q r hk
end Go.Proofs.YtlffjoabajdfnaaGreat.Eng
/- What a row's reading of an argument says of the evaluator's values. No condition. -/
set_option linter.unusedSectionVars false
set_option linter.unusedVariables false
namespace Go.Proofs.YtlffjoabajdfnaaGreat.Eng
variable [Tys] [Rb]
def Bnd : (t : Ty) → D t → Prop
  | .int k, n => (Lit.int k n).wf = true
  | .str, s => ByteArray.size s ≤ 9223372036854775807
  | .sl a, xs => List.length (α := D a) xs ≤ 9223372036854775807 ∧ ∀ x : D a, List.Mem x (show List (D a) from xs) → Bnd a x
  | .pair a b, v => Bnd a v.1 ∧ Bnd b v.2
  | .st i r, v => ∃ h : Tys.row i = r, Bnd r (h ▸ Tys.to i v)
  | _, _ => True
def Ty.opens : Ty → Bool
  | .bool | .str | .int _ | .unit => true
  | .pair a b => a.opens && b.opens
  | .st i r => r.opens && decide (Tys.row i = r)
  | .sl a => a.opens && !Nat.beq a.sz 0
  | _ => false
variable {P : Program} {C : Wd} {ls : List (Nat × Nat)}
theorem TD.cellsOf {ty : Ty} {t : TypeId} (h : TD P ty t) : P.cellsOf t = ty.sz := by
  obtain ⟨i, h1, h2, _⟩ := h.inf
  simp [Program.cellsOf, h1, h2]
theorem choose_vals {α β : Type} (xs : List β) (R : Nat → β → α → Prop) (h : ∀ i b, xs[i]? = some b → ∃ a, R i b a) : ∃ ys : List α, ys.length = xs.length ∧ ∀ (i : Nat) b, xs[i]? = some b → ∃ a, ys[i]? = some a ∧ R i b a := by
  induction xs generalizing R with
  | nil => exact ⟨[], rfl, fun i b hb => by simp at hb⟩
  | cons x xs ih =>
    obtain ⟨a, ha⟩ := h 0 x rfl
    obtain ⟨ys, hl, hy⟩ := ih (fun i => R (i + 1)) (fun i b hb => h (i + 1) b (by simpa using hb))
    refine ⟨a :: ys, by simp [hl], fun i b hb => ?_⟩
    cases i with
    | zero =>
      have : x = b := by simpa using hb
      subst this
      exact ⟨a, rfl, ha⟩
    | succ i => exact hy i b (by simpa using hb)
section
variable {H : Type} {enc : TypeId × Value → H} {base : Nat} {spare : Nat → Bool} {held : Bool}
theorem opens (hRO : ∀ b, b < C.w.heap.size → C.RO ls b) : ∀ ty : Ty, ty.opens = true →
    (∀ (t : TypeId) (fuel : Nat) (cs : List Value) (x : DataW H × List MemPlace), TD P ty t → DataW.trod enc P C.w base spare held fuel t cs = some x → ∃ v : D ty, K C ty (ty.roOf ls) v cs noBlk ∧ Bnd ty v) ∧
    (∀ (fs : List Field) (off : Nat) (cs : List Value), FD P ty fs off → cs.length = off + ty.sz → (∀ f ∈ fs, ∃ fuel y, DataW.trod enc P C.w base spare held fuel f.type ((cs.drop f.offset).take (P.cellsOf f.type)) = some y) →
      ∃ v : D ty, K C ty (ty.roOf ls) v (cs.drop off) noBlk ∧ Bnd ty v)
  | .unit, _ => by
    refine ⟨fun t fuel cs x h _ => by simp only [TD] at h, fun fs off cs h hl _ => ?_⟩
    exact ⟨(), List.drop_of_length_le (by simp [hl, Ty.sz]), trivial⟩
  | .bool, _ => by
    refine ⟨fun t fuel cs x h hx => ?_, fun fs off cs h _ _ => by cases fs <;> simp only [FD] at h⟩
    obtain ⟨b, rfl, _⟩ := DataW.trod_bool h.1 hx
    exact ⟨b, rfl, trivial⟩
  | .str, _ => by
    refine ⟨fun t fuel cs x h hx => ?_, fun fs off cs h _ _ => by cases fs <;> simp only [FD] at h⟩
    obtain ⟨s, rfl, _, hs⟩ := DataW.trod_string h.1 hx
    refine ⟨s, rfl, ?_⟩
    unfold maxLen at hs
    show s.size ≤ _
    omega
  | .int k, _ => by
    refine ⟨fun t fuel cs x h hx => ?_, fun fs off cs h _ _ => by cases fs <;> simp only [FD] at h⟩
    obtain ⟨n, rfl, _, hw⟩ := DataW.trod_int h.1 hx
    exact ⟨n, rfl, hw⟩
  | .pair a b, ho => by
    simp only [Ty.opens, Bool.and_eq_true] at ho
    refine ⟨fun t fuel cs x h _ => by simp only [TD] at h, fun fs off cs h hl hf => ?_⟩
    cases fs with
    | nil => simp only [FD] at h
    | cons f fs =>
      obtain ⟨h1, h2, h3, h4⟩ := h
      obtain ⟨fuel, y, hy⟩ := hf f List.mem_cons_self
      have hl' : cs.length = off + a.sz + b.sz := by simp only [Ty.sz] at hl; omega
      rw [h1, h3.cellsOf] at hy
      obtain ⟨v, hv, hb⟩ := (opens hRO a ho.1).1 _ _ _ _ h3 hy
      obtain ⟨u, hu, hb2⟩ := (opens hRO b ho.2).2 fs (off + a.sz) cs h4 hl' fun g hg => hf g (List.mem_cons_of_mem _ hg)
      refine ⟨(v, u), ⟨_, _, noBlk, noBlk, ?_, by simp only [Ty.roOf, Ow.fst_mk]; exact hv, by simp only [Ty.roOf, Ow.snd_mk]; exact hu, fun _ h => h, fun _ h => h, fun _ h => h.elim⟩, hb, hb2⟩
      rw [← List.drop_drop]
      exact (List.take_append_drop _ _).symm
  | .st i r, ho => by
    simp only [Ty.opens, Bool.and_eq_true, decide_eq_true_eq] at ho
    obtain ⟨ho, hr⟩ := ho
    subst hr
    refine ⟨fun t fuel cs x h hx => ?_, fun fs off cs h _ _ => by cases fs <;> simp only [FD] at h⟩
    have hc := h.cellsOf
    simp only [TD] at h
    obtain ⟨fs, hu, _, hF, _⟩ := h
    obtain ⟨xs, n, rfl, _, hl, hxl, hx⟩ := DataW.trod_struct hu hx
    obtain ⟨v, hv, hb⟩ := (opens hRO (Tys.row i) ho).2 fs.toList 0 cs hF (by rw [hl, hc]; simp [Ty.sz]) (fun f hf => by
      obtain ⟨j, hj⟩ := List.getElem?_of_mem hf
      have hj' : fs[j]? = some f := by simpa using hj
      have h1 := hx j f hj'
      have h2 : j < xs.length := by
        have := (List.getElem?_eq_some_iff.1 hj).1
        simp at this
        omega
      rw [List.getElem?_eq_getElem h2] at h1
      exact ⟨_, _, h1⟩)
    refine ⟨Tys.of i v, ⟨rfl, ?_⟩, rfl, ?_⟩
    · show K C (Tys.row i) ((Tys.row i).roOf ls) (Tys.to i (Tys.of i v)) cs noBlk
      rw [Tys.to_of]
      rw [List.drop_zero] at hv
      exact hv
    · show Bnd (Tys.row i) (Tys.to i (Tys.of i v))
      rw [Tys.to_of]; exact hb
  | .sl a, ho => by
    simp only [Ty.opens, Bool.and_eq_true, Bool.not_eq_true'] at ho
    obtain ⟨ho, hsz⟩ := ho
    have hsz : 0 < a.sz := Nat.pos_of_ne_zero fun e => by rw [e] at hsz; cases hsz
    refine ⟨fun t fuel cs x h hx => ?_, fun fs off cs h _ _ => by cases fs <;> simp only [FD] at h⟩
    simp only [TD] at h
    obtain ⟨e, hu, _, hT⟩ := h
    rcases DataW.trod_slice hu hx with ⟨rfl, _⟩ | ⟨ad, len, cap, elems, rest, n, rfl, rfl, _, hb, hl, hm, hlen, hel, _, _⟩
    · exact ⟨([] : List (D a)), ⟨_, rfl, rfl, fun _ => ⟨none, 0, rfl, Nat.le_refl _, fun h => absurd rfl h⟩⟩, Nat.zero_le _, fun x hx => by cases hx⟩
    · have each : ∀ i y, elems[i]? = some y → ∃ v : D a, (∃ c, K C a (a.roOf ls) v c noBlk ∧ At C.w ad (i * a.sz) c) ∧ Bnd a v := by
        intro i y hy
        have hi : i < len := by
          have := (List.getElem?_eq_some_iff.1 hy).1
          omega
        have hr := hel i hi
        rw [hy, Option.bind_eq_some_iff] at hr
        obtain ⟨c, hcs, hty⟩ := hr
        obtain ⟨v, hK, hB⟩ := (opens hRO a ho).1 e n c y hT hty
        obtain ⟨_, hcl, hcell⟩ := World.cells?_some hcs
        refine ⟨v, ⟨c, hK, fun j u hju => ?_⟩, hB⟩
        have hj : j < c.length := (List.getElem?_eq_some_iff.1 hju).1
        have := hcell j (by omega)
        rw [hju, hT.cellsOf] at this
        rw [← this]
        by_cases h1 : j = 0 <;> by_cases h2 : i * a.sz = 0 <;> simp [Addr.add, Nat.add_assoc, h1, h2]
      obtain ⟨ys, hyl, hys⟩ := choose_vals elems _ each
      have hylen : ys.length = len := by omega
      have mem : ∀ y ∈ ys, Bnd a y := by
        intro y hy
        obtain ⟨i, hi⟩ := List.getElem?_of_mem hy
        have hil : i < elems.length := by
          have := (List.getElem?_eq_some_iff.1 hi).1
          omega
        obtain ⟨a', ha, _, hB⟩ := hys i _ (List.getElem?_eq_getElem hil)
        rw [hi] at ha
        cases ha
        exact hB
      have hmx : len ≤ 9223372036854775807 := by
        unfold maxLen at hm
        omega
      have rows : ∀ (j : Nat) (p : D a), ys[j]? = some p → ∃ xs, K C a (a.roOf ls) p xs noBlk ∧ At C.w ad (j * a.sz) xs := by
        intro j p hp
        have hjl : j < elems.length := by
          have := (List.getElem?_eq_some_iff.1 hp).1
          omega
        obtain ⟨a', ha, hR, _⟩ := hys j _ (List.getElem?_eq_getElem hjl)
        rw [hp] at ha
        cases ha
        exact hR
      refine ⟨(ys : List (D a)), ⟨_, rfl, rfl, fun _ => ⟨some ad, cap, by show Value.slice _ len cap = .slice _ ys.length cap; rw [hylen], ?_, fun hne => ⟨ad, rfl, hRO _ ?_, rows⟩⟩⟩, ?_, mem⟩
      · show ys.length ≤ cap; omega
      · have hne : ys ≠ [] := hne
        obtain ⟨p, hp⟩ : ∃ p, ys[0]? = some p := by
          cases ys with
          | nil => exact absurd rfl hne
          | cons p _ => exact ⟨p, rfl⟩
        obtain ⟨xs, hK, hat⟩ := rows 0 p hp
        have hxl := K_len _ _ _ _ _ hK
        obtain ⟨u, hu⟩ : ∃ u, xs[0]? = some u := by
          cases xs with
          | nil => simp at hxl; omega
          | cons u _ => exact ⟨u, rfl⟩
        have := hat 0 u hu
        simp only [Nat.zero_mul, Nat.add_zero, addr_zero] at this
        exact Nat.lt_of_not_le fun h => by
          unfold World.cell? at this
          rw [Array.getElem?_eq_none h] at this
          cases this
      · show ys.length ≤ _; omega
  | .bx _, ho => by cases ho
  | .pt _, ho => by cases ho
  | .tc _ _, ho => by cases ho
  | .fn _ _, ho => by cases ho
end
end Go.Proofs.YtlffjoabajdfnaaGreat.Eng
/- A law's call: its arguments read, its answer. No condition. -/
set_option linter.unusedSectionVars false
set_option linter.unusedVariables false
namespace Go.Proofs.YtlffjoabajdfnaaGreat.Eng
open Go.RowKit Go.WideShapes
section
variable [Tys] [Rb]
variable {P : Program} {C : Wd} {ls : List (Nat × Nat)} {H : Type} {enc : TypeId × Value → H} {base : Nat} {spare : Nat → Bool} {held : Bool}
theorem arg_rep {ty : Ty} {t : TypeId} {v : Value} {w : World} {base' : Nat} (hT : TD P ty t) (ho : ty.opens = true) (hok : Value.okWide P w .any base' t v) : v = repV ty v.cells.toList := by
  cases ty <;> first | cases ho | skip
  case bool => obtain ⟨b, rfl⟩ := okWide_bool hT.1 hok; rfl
  case str => obtain ⟨b, rfl⟩ := okWide_string hT.1 hok; rfl
  case int k => obtain ⟨b, rfl⟩ := okWide_int hT.1 hok; rfl
  case sl a =>
    simp only [TD] at hT
    obtain ⟨e, hu, _⟩ := hT
    obtain ⟨a, l, c, rfl⟩ := okWide_slice hu hok
    rfl
  case st i r =>
    simp only [TD] at hT
    obtain ⟨fs, hu, _⟩ := hT
    obtain ⟨cs, rfl, _⟩ := okWide_struct hu hok
    simp [repV, Ty.isSt, Value.cells]
  all_goals simp only [TD] at hT
theorem arg_KT0 (hRO : ∀ b, b < C.w.heap.size → C.RO ls b) {ty : Ty} {t : TypeId} {v : Value} {base' : Nat} {d : DataW H} {ps : List MemPlace} (hT : TD P ty t) (ho : ty.opens = true) (hok : Value.okWide P C.w .any base' t v)
    (h : DataW.Trod enc P C.w base spare held t v d ps) : ∃ x : D ty, KT0 C ty (ty.roOf ls) x v noBlk ∧ Bnd ty x := by
  obtain ⟨fuel, hf⟩ := h
  obtain ⟨x, hK, hB⟩ := (opens (C := C) (ls := ls) hRO ty ho).1 t fuel _ _ hT hf
  refine ⟨x, ?_, hB⟩
  rw [arg_rep hT ho hok]
  exact KT0_rep hT.one hK
theorem KTs_nil0 : KTs C (packA []).t (packA []).o (packA []).v [] noBlk := rfl
theorem KTs_cons0 {kv : KV} {kvs : List KV} {v : Value} {vs : List Value} (h : KT0 C kv.t kv.o kv.v v noBlk) (k : KTs C (packA kvs).t (packA kvs).o (packA kvs).v vs noBlk) :
    KTs C (packA (kv :: kvs)).t (packA (kv :: kvs)).o (packA (kv :: kvs)).v (v :: vs) noBlk :=
  ⟨v, vs, noBlk, noBlk, rfl, by show KT0 C kv.t (Ow.mk kv.o (packA kvs).o).fst kv.v v noBlk; rw [Ow.fst_mk]; exact h, by show KTs C _ (Ow.mk kv.o (packA kvs).o).snd _ vs noBlk; rw [Ow.snd_mk]; exact k, fun _ h => h, fun _ h => h, fun _ h => h.elim⟩
end
section
variable [Tys] [Cx]
@[reducible] def rbAll : Rb := ⟨fun _ _ => True⟩
theorem rbAll_RO {W : World} {p : Nat} : ∀ b, b < (@ctx0 _ rbAll W).w.heap.size → (@ctx0 _ rbAll W).RO [(PAR + p, 0)] b :=
  fun b hb => ⟨hb, fun n kv p q hn => (by cases (show Slot.fresh = .live kv p q from hn)), fun _ => ⟨_, List.mem_singleton.2 rfl, trivial⟩⟩
theorem law_calls (G : Good) {f : Nat} {args : List KV} {r : D (.pair .bool .unit)} (hl : lim (.call f args (.pair .bool .unit) .lit) = some r) {g : Sig} (hg : Cx.SG f = some g) (hio : iosAt g.modes 0 = []) {W : World} {vs : List Value}
    (hk : KTs (@ctx0 _ rbAll W) (packA args).t (packA args).o (packA args).v vs noBlk) (ho : (packA args).o.allL parOnly = true) :
    Calls Cx.P f vs.toArray W fun e W' => e = .returned (.bool r.1) ∧ Below W.heap.size W W' := by
  have S : CallSem f args (.pair .bool .unit) .lit r := lim_sem G hl
  have := S.calls g hg rbAll W vs noBlk hk ho (fun b h => h.elim)
  intro cs
  obtain ⟨e, w', fr, ⟨v, rfl, hB⟩, h2, h3, h4⟩ := this cs
  obtain ⟨S1, S2, b1, b2, b3, b4, b5, b6, b7, b8, b9⟩ := hB
  have hv : v = .bool r.1 := List.singleton_inj.1 (show [v] = [.bool r.1] from b1)
  subst hv
  exact ⟨_, w', fr, ⟨rfl, b5, b6, b7, b8, fun k hk => b9 k hk (fun h => h)⟩, h2, h3, h4⟩
end
end Go.Proofs.YtlffjoabajdfnaaGreat.Eng
