/- Lemmas for FnExactNewMaster: what each function comes to. No condition. -/
import Derived.Test.YtpeifepnaecjiaaLFnExactNewMaster
namespace Go.Proofs.Ytpeifepnaecjiaa.Pure
open Go.RowKit Go.Proofs.Ytpeifepnaecjiaa.PFnExactNewMaster Go.Proofs.YtpeifepnaecjiaaW.PrintWords Go.Proofs.YtpeifepnaecjiaaW.PrintLast Go.Proofs.YtpeifepnaecjiaaW.PrintMore Go.Proofs.Ytpeifepnaecjiaa.Lim
set_option linter.unusedVariables false
set_option linter.unusedSimpArgs false

/-! #### basic -/
theorem w64 {n : Int} (h1 : -9223372036854775808 ≤ n) (h2 : n ≤ 9223372036854775807) : wrap64 n = n := by unfold wrap64; omega
theorem wf64 {n : Int} (h : (Lit.int .i64 n).wf = true) : -9223372036854775808 ≤ n ∧ n ≤ 9223372036854775807 := by
  simp only [Lit.wf, IntKind.min, IntKind.max, IntKind.signed, IntKind.bits, Bool.and_eq_true, decide_eq_true_eq, if_true] at h
  omega
theorem wf8 {n : Int} (h : (Lit.int .u8 n).wf = true) : 0 ≤ n ∧ n ≤ 255 := by
  simp only [Lit.wf, IntKind.min, IntKind.max, IntKind.signed, IntKind.bits, Bool.and_eq_true, decide_eq_true_eq] at h
  simp at h
  omega
theorem mn_eq (a b : Int) : mn a b = if a ≤ b then a else b := by unfold mn; split <;> split <;> omega
theorem mx_eq (a b : Int) : mx a b = if a ≤ b then b else a := by unfold mx; split <;> split <;> omega
theorem rd_drop {xs : List Int} {i : Int} {y : Int} {ys : List Int} (h0 : 0 ≤ i) (h : xs.drop i.toNat = y :: ys) : rd xs i = y ∧ i < xs.length ∧ xs.drop (i + 1).toNat = ys := by
  have h1 : i.toNat < xs.length := by
    by_cases e : i.toNat < xs.length
    · exact e
    · rw [List.drop_eq_nil_of_le (by omega)] at h; cases h
  rw [List.drop_eq_getElem_cons h1] at h
  injection h with ha hb
  refine ⟨?_, by omega, ?_⟩
  · unfold rd; rw [List.getD_eq_getElem?_getD, List.getElem?_eq_getElem h1]; exact ha
  · rw [show (i + 1).toNat = i.toNat + 1 by omega]; exact hb
theorem drop_nil {α : Type} {xs : List α} {i : Int} (h0 : 0 ≤ i) (hi : i ≤ xs.length) (h : xs.drop i.toNat = []) : i = xs.length := by
  have := congrArg List.length h
  simp at this
  omega
theorem rdOf_drop {α : Type} {d : α} {xs : List α} {i : Int} {y : α} {ys : List α} (h0 : 0 ≤ i) (h : xs.drop i.toNat = y :: ys) : rdOf d xs i = y ∧ i < xs.length ∧ xs.drop (i + 1).toNat = ys := by
  have h1 : i.toNat < xs.length := by
    by_cases e : i.toNat < xs.length
    · exact e
    · rw [List.drop_eq_nil_of_le (by omega)] at h; cases h
  rw [List.drop_eq_getElem_cons h1] at h
  injection h with ha hb
  refine ⟨?_, by omega, ?_⟩
  · unfold rdOf; rw [List.getD_eq_getElem?_getD, List.getElem?_eq_getElem h1]; exact ha
  · rw [show (i + 1).toNat = i.toNat + 1 by omega]; exact hb

/-! #### intS -/
theorem set_at {α : Type} {xs : List α} {i : Nat} {y z : α} {ys : List α} (h : xs.drop i = y :: ys) : (xs.set i z).take (i + 1) = xs.take i ++ [z] ∧ (xs.set i z).drop (i + 1) = ys ∧ (xs.set i z).length = xs.length := by
  have h1 : i < xs.length := by
    by_cases e : i < xs.length
    · exact e
    · rw [List.drop_eq_nil_of_le (by omega)] at h; cases h
  rw [List.drop_eq_getElem_cons h1] at h
  injection h with ha hb
  refine ⟨?_, ?_, by simp⟩
  · rw [List.take_succ_eq_append_getElem (by simpa using h1), List.take_set_of_le (by omega)]; simp
  · rw [List.drop_set_of_lt (by omega)]; exact hb
theorem drop_take_cons {α : Type} {xs pre : List α} {i : Nat} {y : α} {ys : List α} (h : xs.drop i = y :: ys) : xs.take (i + 1) = xs.take i ++ [y] ∧ i < xs.length ∧ xs.drop (i + 1) = ys := by
  have h1 : i < xs.length := by
    by_cases e : i < xs.length
    · exact e
    · rw [List.drop_eq_nil_of_le (by omega)] at h; cases h
  rw [List.drop_eq_getElem_cons h1] at h
  injection h with ha hb
  exact ⟨by rw [List.take_succ_eq_append_getElem h1, ha], h1, hb⟩

/-! #### loops -/
theorem getD_drop {α : Type} {xs : List α} {d : α} {i : Int} {y : α} {ys : List α} (h0 : 0 ≤ i) (h : xs.drop i.toNat = y :: ys) : xs.getD i.toNat d = y ∧ i < xs.length ∧ xs.drop (i + 1).toNat = ys := by
  have h1 : i.toNat < xs.length := by
    by_cases e : i.toNat < xs.length
    · exact e
    · rw [List.drop_eq_nil_of_le (by omega)] at h; cases h
  rw [List.drop_eq_getElem_cons h1] at h
  injection h with ha hb
  refine ⟨?_, by omega, ?_⟩
  · rw [List.getD_eq_getElem?_getD, List.getElem?_eq_getElem h1]; exact ha
  · rw [show (i + 1).toNat = i.toNat + 1 by omega]; exact hb
/-- A copy, element by element, into a list of the same length. -/
theorem copy_loop {α : Type} (ys : List α) (d : α) (n : Nat) (hn : n = ys.length) (L : List α → Int → Option (List α))
    (hL : ∀ (zs : List α) (i : Int), 0 ≤ i → i ≤ n → zs.length = n → L zs i = if i < (n : Int) then L (zs.set i.toNat (ys.getD i.toNat d)) (i + 1) else some zs) :
    ∀ (ws zs : List α) (i : Int), 0 ≤ i → i ≤ n → ys.drop i.toNat = ws → zs.length = n → zs.take i.toNat = ys.take i.toNat → L zs i = some ys
  | [], zs, i, h0, h1, hd, hl, ht => by
    have := drop_nil h0 (by omega) hd
    rw [hL zs i h0 h1 hl, if_neg (by omega)]
    rw [List.take_of_length_le (by omega), List.take_of_length_le (by omega)] at ht
    rw [ht]
  | w :: ws, zs, i, h0, h1, hd, hl, ht => by
    obtain ⟨hr, hlt, hd'⟩ := getD_drop (d := d) h0 hd
    obtain ⟨t1, _, _⟩ := drop_take_cons (pre := ys) hd
    have hz : zs.drop i.toNat = zs[i.toNat]'(by omega) :: zs.drop (i.toNat + 1) := List.drop_eq_getElem_cons (by omega)
    obtain ⟨s1, s2, s3⟩ := set_at (z := w) hz
    rw [hL zs i h0 h1 hl, if_pos (by omega), hr]
    exact copy_loop ys d n hn L hL ws _ (i + 1) (by omega) (by omega) hd' (by omega) (by rw [show (i + 1).toNat = i.toNat + 1 by omega, s1, t1, ht])
/-- A comparison, element by element, of lists of the same length. -/
theorem eq_loop {α : Type} [DecidableEq α] (xs zs : List α) (d : α) (hl : xs.length = zs.length) (L : Int → Option Bool)
    (hL : ∀ i : Int, 0 ≤ i → i ≤ xs.length → L i = if i < (xs.length : Int) then (if xs.getD i.toNat d = zs.getD i.toNat d then L (i + 1) else some false) else some true) :
    ∀ (ys ws : List α) (i : Int), 0 ≤ i → i ≤ xs.length → xs.drop i.toNat = ys → zs.drop i.toNat = ws → L i = some (decide (ys = ws))
  | [], ws, i, h0, h1, hd, hw => by
    have := drop_nil h0 h1 hd
    rw [hL i h0 h1, if_neg (by omega)]
    rw [List.drop_eq_nil_of_le (by omega)] at hw
    rw [← hw]; rfl
  | y :: ys, [], i, h0, h1, hd, hw => by
    have := drop_nil h0 (by omega) hw
    obtain ⟨hr, hlt, hd'⟩ := getD_drop (d := d) h0 hd
    omega
  | y :: ys, w :: ws, i, h0, h1, hd, hw => by
    obtain ⟨hr, hlt, hd'⟩ := getD_drop (d := d) h0 hd
    obtain ⟨hr2, hlt2, hw'⟩ := getD_drop (d := d) h0 hw
    rw [hL i h0 h1, if_pos hlt, hr, hr2]
    by_cases e : y = w
    · rw [if_pos e, eq_loop xs zs d hl L hL ys ws (i + 1) (by omega) (by omega) hd' hw']
      simp [e]
    · rw [if_neg e]; simp [e]
theorem eq_loop0 {α : Type} [DecidableEq α] (xs zs : List α) (d : α) (hl : xs.length = zs.length) (L : Int → Option Bool)
    (hL : ∀ i : Int, 0 ≤ i → i ≤ xs.length → L i = if i < (xs.length : Int) then (if xs.getD i.toNat d = zs.getD i.toNat d then L (i + 1) else some false) else some true) : L 0 = some (decide (xs = zs)) :=
  eq_loop xs zs d hl L hL xs zs 0 (by omega) (by omega) (by simp) (by simp)
theorem copy_loop0 {α : Type} (ys zs : List α) (d : α) (n : Nat) (hn : n = ys.length) (hz : zs.length = n) (L : List α → Int → Option (List α))
    (hL : ∀ (zs : List α) (i : Int), 0 ≤ i → i ≤ n → zs.length = n → L zs i = if i < (n : Int) then L (zs.set i.toNat (ys.getD i.toNat d)) (i + 1) else some zs) : L zs 0 = some ys :=
  copy_loop ys d n hn L hL ys zs 0 (by omega) (by omega) (by simp) hz (by simp)
/-- Marks: an element for each number, c numbers an element. -/
def marks {α : Type} (el : Int → α) (c : Int) : Nat → Int → List α
  | 0, _ => []
  | n + 1, k => el k :: marks el c n (k + c)
theorem marks_length {α : Type} (el : Int → α) (c : Int) : ∀ (n : Nat) (k : Int), (marks el c n k).length = n
  | 0, _ => rfl
  | n + 1, k => by simp [marks, marks_length el c n]
theorem mark_loop {α : Type} (el : Int → α) (c : Int) (hc : 0 ≤ c) (hc2 : c ≤ 1000) (n : Nat) (hn : n ≤ 1000000000) (L : List α → Int → Int → Option (Int × List α))
    (hL : ∀ (zs : List α) (k i : Int), 0 ≤ i → i ≤ n → zs.length = n → 0 ≤ k → k ≤ 100000000000 + 1000 * n → L zs k i = if i < (n : Int) then L (zs.set i.toNat (el k)) (k + c) (i + 1) else some (k, zs)) :
    ∀ (ys zs : List α) (k i : Int), 0 ≤ i → i ≤ n → zs.length = n → zs.drop i.toNat = ys → 0 ≤ k → k ≤ 100000000000 + 1000 * i → L zs k i = some (k + c * ys.length, zs.take i.toNat ++ marks el c ys.length k)
  | [], zs, k, i, h0, h1, hl, hd, hk, hk2 => by
    have := drop_nil h0 (by omega) hd
    rw [hL zs k i h0 h1 hl hk (by omega), if_neg (by omega), List.take_of_length_le (by omega)]; simp [marks]
  | y :: ys, zs, k, i, h0, h1, hl, hd, hk, hk2 => by
    obtain ⟨hr, hlt, hd'⟩ := getD_drop (d := y) h0 hd
    obtain ⟨s1, s2, s3⟩ := set_at (z := el k) hd
    rw [hL zs k i h0 h1 hl hk (by omega), if_pos (by omega),
      mark_loop el c hc hc2 n hn L hL ys _ (k + c) (i + 1) (by omega) (by omega) (by omega) (by rw [show (i + 1).toNat = i.toNat + 1 by omega]; exact s2) (by omega) (by omega),
      show (i + 1).toNat = i.toNat + 1 by omega, s1]
    simp only [List.length_cons, marks, List.append_assoc, List.singleton_append]
    congr 2
    rw [show ((ys.length + 1 : Nat) : Int) = (ys.length : Int) + 1 by omega, Int.mul_add]
    omega
theorem mark_loop0 {α : Type} (el : Int → α) (c : Int) (hc : 0 ≤ c) (hc2 : c ≤ 1000) (zs : List α) (hn : zs.length ≤ 1000000000) (k : Int) (hk : 0 ≤ k) (hk2 : k ≤ 100000000000) (L : List α → Int → Int → Option (Int × List α))
    (hL : ∀ (ws : List α) (k i : Int), 0 ≤ i → i ≤ zs.length → ws.length = zs.length → 0 ≤ k → k ≤ 100000000000 + 1000 * zs.length → L ws k i = if i < (zs.length : Int) then L (ws.set i.toNat (el k)) (k + c) (i + 1) else some (k, ws)) :
    L zs k 0 = some (k + c * zs.length, marks el c zs.length k) := by
  have := mark_loop el c hc hc2 zs.length hn L hL zs zs k 0 (by omega) (by omega) rfl (by simp) hk (by omega)
  simpa using this
theorem held_loop {α : Type} (el : Int → α) (d : α) (c : Int) (hc : 0 ≤ c) (hc2 : c ≤ 1000) (zs : List α) (hn : zs.length ≤ 1000000000) (L : Int → Int → Option Int)
    (hL : ∀ k i : Int, 0 ≤ i → i ≤ zs.length → 0 ≤ k → k ≤ 100000000000 + 1000 * zs.length → (i < zs.length → zs.getD i.toNat d = el k) → L k i = if i < (zs.length : Int) then L (k + c) (i + 1) else some k) :
    ∀ (n : Nat) (k i : Int), 0 ≤ i → i ≤ zs.length → zs.drop i.toNat = marks el c n k → 0 ≤ k → k ≤ 100000000000 + 1000 * i → L k i = some (k + c * n)
  | 0, k, i, h0, h1, hd, hk, hk2 => by
    have := drop_nil h0 h1 hd
    rw [hL k i h0 h1 hk (by omega) (fun h => by omega), if_neg (by omega)]; simp
  | n + 1, k, i, h0, h1, hd, hk, hk2 => by
    obtain ⟨hr, hlt, hd'⟩ := getD_drop (d := d) h0 hd
    rw [hL k i h0 h1 hk (by omega) (fun _ => hr), if_pos hlt, held_loop el d c hc hc2 zs hn L hL n (k + c) (i + 1) (by omega) (by omega) hd' (by omega) (by omega)]
    congr 1
    rw [show ((n + 1 : Nat) : Int) = (n : Int) + 1 by omega, Int.mul_add]
    omega
theorem held_loop0 {α : Type} (el : Int → α) (d : α) (c : Int) (hc : 0 ≤ c) (hc2 : c ≤ 1000) (n : Nat) (hn : n ≤ 1000000000) (k : Int) (hk : 0 ≤ k) (hk2 : k ≤ 100000000000) (L : Int → Int → Option Int)
    (hL : ∀ k' i : Int, 0 ≤ i → i ≤ n → 0 ≤ k' → k' ≤ 100000000000 + 1000 * n → (i < n → (marks el c n k).getD i.toNat d = el k') → L k' i = if i < (n : Int) then L (k' + c) (i + 1) else some k') :
    L k 0 = some (k + c * n) := by
  have hm := marks_length el c n k
  refine held_loop el d c hc hc2 (marks el c n k) (by omega) L (fun k' i => ?_) n k 0 (by omega) (by omega) (by simp) hk (by omega)
  rw [hm]
  exact hL k' i

/-! #### refl_loop -/
theorem refl_loop (n : Nat) (L : Int → Option Bool) (hL : ∀ i : Int, 0 ≤ i → i ≤ n → L i = if i < (n : Int) then L (i + 1) else some true) : ∀ (m : Nat) (i : Int), i + m = n → 0 ≤ i → L i = some true
  | 0, i, h, h0 => by rw [hL i h0 (by omega), if_neg (by omega)]
  | m + 1, i, h, h0 => by rw [hL i h0 (by omega), if_pos (by omega)]; exact refl_loop n L hL m (i + 1) (by omega) (by omega)
theorem refl_loop0 (n : Nat) (L : Int → Option Bool) (hL : ∀ i : Int, 0 ≤ i → i ≤ n → L i = if i < (n : Int) then L (i + 1) else some true) : L 0 = some true := refl_loop n L hL n 0 (by omega) (by omega)

/-! #### markText -/
theorem son_size (xs : List Int) : (strOfNums xs).size = xs.length := by simp [strOfNums, ByteArray.size]
theorem markText_l0 : ∀ (n : Nat) (k : Int) (s : ByteArray), 0 ≤ k → k < 10 ^ n → k ≤ 9223372036854775807 → s.size + n ≤ 1000 → ∃ r, laws_markText.l0L k s = some r
  | 0, k, s, h0, h1, h2, hs => by
    rw [laws_markText.l0L_eq, if_neg (by simp at h1; omega), if_pos (by omega)]; exact ⟨_, rfl⟩
  | n + 1, k, s, h0, h1, h2, hs => by
    by_cases e : k > 0
    · have hd : Int.tdiv k 10 = k / 10 := Int.tdiv_eq_ediv_of_nonneg h0
      have hp : (10 : Int) ^ (n + 1) = 10 ^ n * 10 := Int.pow_succ 10 n
      have h3 : k / 10 < 10 ^ n := by omega
      rw [laws_markText.l0L_eq, if_pos e, Option.bind_some, if_pos (by rw [son_size]; simp; omega), hd, w64 (n := k / 10) (by omega) (by omega)]
      exact markText_l0 n (k / 10) _ (by omega) h3 (by omega) (by rw [ByteArray.size_append, son_size]; simp; omega)
    · rw [laws_markText.l0L_eq, if_neg e, if_pos (by omega)]; exact ⟨_, rfl⟩
theorem markText_ok (k : Int) (h0 : 0 ≤ k) (h1 : k ≤ 9223372036854775807) : ∃ r, laws_markText.fL k = some r := by
  rw [laws_markText.fL_eq]
  by_cases e : k ≤ 0
  · rw [if_pos e]; exact ⟨_, rfl⟩
  · rw [if_neg e]; exact markText_l0 30 k _ h0 (by omega) h1 (show 0 + 30 ≤ 1000 by omega)
/-- The text of a mark. -/
noncomputable def mt (k : Int) : ByteArray := (laws_markText.fL k).getD (⟨#[]⟩ : ByteArray)
theorem mt_eq (k : Int) (h0 : 0 ≤ k) (h1 : k ≤ 9223372036854775807) : laws_markText.fL k = some (mt k) := by
  obtain ⟨r, hr⟩ := markText_ok k h0 h1
  unfold mt
  rw [hr]; rfl

/-! #### routeS -/
theorem eqInterval_refl (a b : ByteArray) : laws_eqInterval.f a b a b = some true := by unfold laws_eqInterval.f; simp
theorem eqRoute_refl (a : Int) (b c : ByteArray) : laws_eqRoute.f a b c a b c = some true := by unfold laws_eqRoute.f; simp [eqInterval_refl]
theorem eqRouteS_refl (xs : List S81) (hx : xs.length ≤ 1000000000000) : laws_eqRouteS.fL xs xs = some true := by
  rw [laws_eqRouteS.fL_eq, if_pos rfl]
  refine refl_loop0 xs.length (fun i => laws_eqRouteS.l0L xs xs i) (fun i h0 h1 => ?_)
  rw [laws_eqRouteS.l0L_eq]
  by_cases h : i < (xs.length : Int)
  · rw [if_pos h, if_pos h0, if_pos h, eqRoute_refl, Option.bind_some, if_pos rfl, w64 (by omega) (by omega), if_pos h]
  · rw [if_neg h, if_neg h]
/-- A marked route. -/
noncomputable def elRoute (k : Int) : S81 := ⟨k, ⟨mt (k + 1), mt (k + 1 + 1)⟩⟩
theorem rd_set_route (xs : List S81) (i : Int) (y : S81) (h0 : 0 ≤ i) (h : i < xs.length) : rd_T81 (xs.set i.toNat y) i = y := by
  unfold rd_T81
  rw [List.getD_eq_getElem?_getD, List.getElem?_set_self (by omega)]; rfl
theorem markRouteS_f (xs : List S81) (k : Int) (hx : xs.length ≤ 1000000000) (hk : 0 ≤ k) (hk2 : k ≤ 100000000000) : laws_markRouteS.fL xs k = some (k + 3 * xs.length, marks elRoute 3 xs.length k) := by
  rw [laws_markRouteS.fL_eq]
  refine mark_loop0 elRoute 3 (by omega) (by omega) xs hx k hk hk2 (fun zs k i => laws_markRouteS.l0L zs k i) (fun zs k i h0 h1 hl hk hk2 => ?_)
  rw [laws_markRouteS.l0L_eq]
  by_cases h : i < (xs.length : Int)
  · have hz : i < (zs.length : Int) := by omega
    rw [if_pos hz, if_pos h0, Option.bind_some, w64 (n := k + 1) (by omega) (by omega), mt_eq (k + 1) (by omega) (by omega), Option.bind_some, Option.bind_some, w64 (n := k + 1 + 1) (by omega) (by omega), mt_eq (k + 1 + 1) (by omega) (by omega), Option.bind_some,
      w64 (n := k + 1 + 1 + 1) (by omega) (by omega), w64 (n := i + 1) (by omega) (by omega), if_pos h]
    have hz2 : ∀ y, i < ((zs.set i.toNat y).length : Int) := fun y => by rw [List.length_set]; exact hz
    rw [rd_set_route (zs.set i.toNat _) i _ h0 (hz2 _), rd_set_route zs i _ h0 hz, List.set_set, List.set_set, show k + 1 + 1 + 1 = k + 3 by omega]
    rfl
  · rw [if_neg (by omega), if_neg h]
theorem heldRouteS_f (n : Nat) (k : Int) (hn : n ≤ 1000000000) (hk : 0 ≤ k) (hk2 : k ≤ 100000000000) : laws_heldRouteS.fL (marks elRoute 3 n k) k = some (k + 3 * n) := by
  have hm := marks_length elRoute 3 n k
  rw [laws_heldRouteS.fL_eq]
  refine held_loop0 elRoute z81 3 (by omega) (by omega) n hn k hk hk2 (fun k' i => laws_heldRouteS.l0L (marks elRoute 3 n k) k' i) (fun k' i h0 h1 hk hk2 he => ?_)
  rw [laws_heldRouteS.l0L_eq, hm]
  by_cases h : i < (n : Int)
  · have he := he h
    have hr : rd_T81 (marks elRoute 3 n k) i = elRoute k' := he
    rw [if_pos h, if_pos h0, hr, if_pos h]
    rw [if_pos (show (elRoute k').f0 = k' from rfl), w64 (n := k' + 1) (by omega) (by omega), mt_eq (k' + 1) (by omega) (by omega), Option.bind_some, if_pos (show (elRoute k').f1.f0.toList = (mt (k' + 1)).toList from rfl),
      w64 (n := k' + 1 + 1) (by omega) (by omega), mt_eq (k' + 1 + 1) (by omega) (by omega), Option.bind_some, if_pos (show (elRoute k').f1.f1.toList = (mt (k' + 1 + 1)).toList from rfl),
      w64 (n := k' + 1 + 1 + 1) (by omega) (by omega), w64 (n := i + 1) (by omega) (by omega), show k' + 1 + 1 + 1 = k' + 3 by omega]
  · rw [if_neg h, if_neg h]

end Go.Proofs.Ytpeifepnaecjiaa.Pure
