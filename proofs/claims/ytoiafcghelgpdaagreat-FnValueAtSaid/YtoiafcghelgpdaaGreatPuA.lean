/- Plain facts about numbers, lists and strings. No condition. -/
import Derived.Test.YtoiafcghelgpdaaGreatEqs
set_option linter.unusedVariables false
set_option linter.unusedSimpArgs false
namespace Go.Proofs.YtoiafcghelgpdaaGreat.Ev
open Go.Proofs.YtoiafcghelgpdaaGreat.Eng
open Go.RowKit (wrap64)

theorem w64 {n : Int} (h1 : -9223372036854775808 ≤ n) (h2 : n ≤ 9223372036854775807) : wrap64 n = n := by unfold wrap64; omega
theorem wf64 {n : Int} (h : (Lit.int .i64 n).wf = true) : -9223372036854775808 ≤ n ∧ n ≤ 9223372036854775807 := by
  simp only [Lit.wf, IntKind.min, IntKind.max, IntKind.signed, IntKind.bits, Bool.and_eq_true, decide_eq_true_eq, if_true] at h
  omega
theorem drop_nil {α : Type} {xs : List α} {i : Int} (h0 : 0 ≤ i) (hi : i ≤ xs.length) (h : xs.drop i.toNat = []) : i = xs.length := by
  have := congrArg List.length h
  simp at this
  omega
theorem rd_drop {α : Type} {d : α} {xs : List α} {i : Int} {y : α} {ys : List α} (h0 : 0 ≤ i) (h : xs.drop i.toNat = y :: ys) : rdAt xs i.toNat d = y ∧ i < xs.length ∧ xs.drop (i + 1).toNat = ys := by
  have h1 : i.toNat < xs.length := by
    by_cases e : i.toNat < xs.length
    · exact e
    · rw [List.drop_eq_nil_of_le (by omega)] at h; cases h
  rw [List.drop_eq_getElem_cons h1] at h
  injection h with ha hb
  refine ⟨?_, by omega, ?_⟩
  · unfold rdAt; rw [List.getD_eq_getElem?_getD, List.getElem?_eq_getElem h1]; exact ha
  · rw [show (i + 1).toNat = i.toNat + 1 by omega]; exact hb
theorem rd_mem {α : Type} {d : α} {xs : List α} {i : Int} (h0 : 0 ≤ i) (h : i < xs.length) : rdAt xs i.toNat d ∈ xs := by
  unfold rdAt
  rw [List.getD_eq_getElem?_getD, List.getElem?_eq_getElem (show i.toNat < xs.length by omega)]
  exact List.getElem_mem _
theorem rd_map {α β : Type} (f : α → β) (xs : List α) (i : Nat) (d : α) (e : β) (h : i < xs.length) : rdAt (xs.map f) i e = f (rdAt xs i d) := by
  unfold rdAt
  simp [List.getD_eq_getElem?_getD, List.getElem?_eq_getElem h]
theorem rd_set {α : Type} {d : α} (xs : List α) (i : Nat) (y : α) (h : i < xs.length) : rdAt (xs.set i y) i d = y := by
  unfold rdAt
  rw [List.getD_eq_getElem?_getD, List.getElem?_set_self h]; rfl
theorem set_at {α : Type} {xs : List α} {i : Nat} {y z : α} {ys : List α} (h : xs.drop i = y :: ys) : (xs.set i z).take (i + 1) = xs.take i ++ [z] ∧ (xs.set i z).drop (i + 1) = ys ∧ (xs.set i z).length = xs.length := by
  have h1 : i < xs.length := by
    by_cases e : i < xs.length
    · exact e
    · rw [List.drop_eq_nil_of_le (by omega)] at h; cases h
  have h2 := h
  rw [List.drop_eq_getElem_cons h1] at h2
  injection h2 with ha hb
  refine ⟨?_, ?_, List.length_set⟩
  · rw [List.take_succ_eq_append_getElem (by rw [List.length_set]; exact h1), List.getElem_set_self, List.take_set_of_le (Nat.le_refl _)]
  · rw [List.drop_set_of_lt (Nat.lt_succ_self i)]; exact hb
theorem take_at {α : Type} {xs : List α} {i : Nat} {y : α} {ys : List α} (h : xs.drop i = y :: ys) : xs.take (i + 1) = xs.take i ++ [y] := by
  have h1 : i < xs.length := by
    by_cases e : i < xs.length
    · exact e
    · rw [List.drop_eq_nil_of_le (by omega)] at h; cases h
  rw [List.drop_eq_getElem_cons h1] at h
  injection h with ha hb
  rw [List.take_succ_eq_append_getElem h1, ha]

/-! ### Loops -/
/-- A copy, element by element, into a list of the same length. -/
theorem copy_loop {α β : Type} (ys : List α) (d : α) (n : Nat) (hn : n = ys.length) (R : List α → β) (L : List α → Int → Option β)
    (hL : ∀ (zs : List α) (i : Int), 0 ≤ i → i ≤ n → zs.length = n → L zs i = if i < (n : Int) then L (zs.set i.toNat (rdAt ys i.toNat d)) (i + 1) else some (R zs)) :
    ∀ (ws zs : List α) (i : Int), 0 ≤ i → i ≤ n → ys.drop i.toNat = ws → zs.length = n → zs.take i.toNat = ys.take i.toNat → L zs i = some (R ys)
  | [], zs, i, h0, h1, hd, hl, ht => by
    have := drop_nil h0 (by omega) hd
    rw [hL zs i h0 h1 hl, if_neg (by omega)]
    rw [List.take_of_length_le (by omega), List.take_of_length_le (by omega)] at ht
    rw [ht]
  | w :: ws, zs, i, h0, h1, hd, hl, ht => by
    obtain ⟨hr, hlt, hd'⟩ := rd_drop (d := d) h0 hd
    have t1 := take_at hd
    have hz : zs.drop i.toNat = zs[i.toNat]'(by omega) :: zs.drop (i.toNat + 1) := List.drop_eq_getElem_cons (by omega)
    obtain ⟨s1, s2, s3⟩ := set_at (z := w) hz
    rw [hL zs i h0 h1 hl, if_pos (by omega), hr]
    exact copy_loop ys d n hn R L hL ws _ (i + 1) (by omega) (by omega) hd' (by omega) (by rw [show (i + 1).toNat = i.toNat + 1 by omega, s1, t1, ht])
theorem copy_loop0 {α β : Type} (ys zs : List α) (d : α) (n : Nat) (hn : n = ys.length) (hz : zs.length = n) (R : List α → β) (L : List α → Int → Option β)
    (hL : ∀ (zs : List α) (i : Int), 0 ≤ i → i ≤ n → zs.length = n → L zs i = if i < (n : Int) then L (zs.set i.toNat (rdAt ys i.toNat d)) (i + 1) else some (R zs)) : L zs 0 = some (R ys) :=
  copy_loop ys d n hn R L hL ys zs 0 (by omega) (by omega) (by simp) hz (by simp)
/-- A comparison of a list with itself. -/
theorem refl_loop {β : Type} (v : β) (n : Nat) (L : Int → Option β) (hL : ∀ i : Int, 0 ≤ i → i ≤ n → L i = if i < (n : Int) then L (i + 1) else some v) : ∀ (k : Nat) (i : Int), 0 ≤ i → i + k = n → L i = some v
  | 0, i, h0, h1 => by rw [hL i h0 (by omega), if_neg (by omega)]
  | k + 1, i, h0, h1 => by rw [hL i h0 (by omega), if_pos (by omega)]; exact refl_loop v n L hL k (i + 1) (by omega) (by omega)
theorem refl_loop0 {β : Type} (v : β) (n : Nat) (L : Int → Option β) (hL : ∀ i : Int, 0 ≤ i → i ≤ n → L i = if i < (n : Int) then L (i + 1) else some v) : L 0 = some v := refl_loop v n L hL n 0 (by omega) (by omega)
/-- Marks: an element for each number, c numbers an element. -/
def marks {α : Type} (el : Int → α) (c : Int) : Nat → Int → List α
  | 0, _ => []
  | n + 1, k => el k :: marks el c n (k + c)
theorem marks_length {α : Type} (el : Int → α) (c : Int) : ∀ (n : Nat) (k : Int), (marks el c n k).length = n
  | 0, _ => rfl
  | n + 1, k => by simp [marks, marks_length el c n]
theorem mark_loop {α β : Type} (el : Int → α) (c : Int) (hc : 0 ≤ c) (hc2 : c ≤ 1000) (n : Nat) (hn : n ≤ 1000000000) (R : Int → List α → β) (L : List α → Int → Int → Option β)
    (hL : ∀ (zs : List α) (k i : Int), 0 ≤ i → i ≤ n → zs.length = n → 0 ≤ k → k ≤ 100000000000 + 1000 * n → L zs k i = if i < (n : Int) then L (zs.set i.toNat (el k)) (k + c) (i + 1) else some (R k zs)) :
    ∀ (ys zs : List α) (k i : Int), 0 ≤ i → i ≤ n → zs.length = n → zs.drop i.toNat = ys → 0 ≤ k → k ≤ 100000000000 + 1000 * i → L zs k i = some (R (k + c * ys.length) (zs.take i.toNat ++ marks el c ys.length k))
  | [], zs, k, i, h0, h1, hl, hd, hk, hk2 => by
    have := drop_nil h0 (by omega) hd
    rw [hL zs k i h0 h1 hl hk (by omega), if_neg (by omega), List.take_of_length_le (by omega)]; simp [marks]
  | y :: ys, zs, k, i, h0, h1, hl, hd, hk, hk2 => by
    obtain ⟨hr, hlt, hd'⟩ := rd_drop (d := y) h0 hd
    obtain ⟨s1, s2, s3⟩ := set_at (z := el k) hd
    rw [hL zs k i h0 h1 hl hk (by omega), if_pos (by omega),
      mark_loop el c hc hc2 n hn R L hL ys _ (k + c) (i + 1) (by omega) (by omega) (by omega) (by rw [show (i + 1).toNat = i.toNat + 1 by omega]; exact s2) (by omega) (by omega),
      show (i + 1).toNat = i.toNat + 1 by omega, s1]
    simp only [List.length_cons, marks, List.append_assoc, List.singleton_append]
    congr 2
    rw [show ((ys.length + 1 : Nat) : Int) = (ys.length : Int) + 1 by omega, Int.mul_add]
    omega
theorem mark_loop0 {α β : Type} (el : Int → α) (c : Int) (hc : 0 ≤ c) (hc2 : c ≤ 1000) (zs : List α) (hn : zs.length ≤ 1000000000) (k : Int) (hk : 0 ≤ k) (hk2 : k ≤ 100000000000) (R : Int → List α → β) (L : List α → Int → Int → Option β)
    (hL : ∀ (ws : List α) (k i : Int), 0 ≤ i → i ≤ zs.length → ws.length = zs.length → 0 ≤ k → k ≤ 100000000000 + 1000 * zs.length → L ws k i = if i < (zs.length : Int) then L (ws.set i.toNat (el k)) (k + c) (i + 1) else some (R k ws)) :
    L zs k 0 = some (R (k + c * zs.length) (marks el c zs.length k)) := by
  have := mark_loop el c hc hc2 zs.length hn R L hL zs zs k 0 (by omega) (by omega) rfl (by simp) hk (by omega)
  simpa using this
theorem held_loop {α β : Type} (el : Int → α) (d : α) (c : Int) (hc : 0 ≤ c) (hc2 : c ≤ 1000) (zs : List α) (hn : zs.length ≤ 1000000000) (R : Int → β) (L : Int → Int → Option β)
    (hL : ∀ k i : Int, 0 ≤ i → i ≤ zs.length → 0 ≤ k → k ≤ 100000000000 + 1000 * zs.length → (i < zs.length → rdAt zs i.toNat d = el k) → L k i = if i < (zs.length : Int) then L (k + c) (i + 1) else some (R k)) :
    ∀ (n : Nat) (k i : Int), 0 ≤ i → i ≤ zs.length → zs.drop i.toNat = marks el c n k → 0 ≤ k → k ≤ 100000000000 + 1000 * i → L k i = some (R (k + c * n))
  | 0, k, i, h0, h1, hd, hk, hk2 => by
    have := drop_nil h0 h1 hd
    rw [hL k i h0 h1 hk (by omega) (fun h => by omega), if_neg (by omega)]; simp
  | n + 1, k, i, h0, h1, hd, hk, hk2 => by
    obtain ⟨hr, hlt, hd'⟩ := rd_drop (d := d) h0 hd
    rw [hL k i h0 h1 hk (by omega) (fun _ => hr), if_pos hlt, held_loop el d c hc hc2 zs hn R L hL n (k + c) (i + 1) (by omega) (by omega) hd' (by omega) (by omega)]
    congr 2
    rw [show ((n + 1 : Nat) : Int) = (n : Int) + 1 by omega, Int.mul_add]
    omega
theorem held_loop0 {α β : Type} (el : Int → α) (d : α) (c : Int) (hc : 0 ≤ c) (hc2 : c ≤ 1000) (n : Nat) (hn : n ≤ 1000000000) (k : Int) (hk : 0 ≤ k) (hk2 : k ≤ 100000000000) (R : Int → β) (L : Int → Int → Option β)
    (hL : ∀ k' i : Int, 0 ≤ i → i ≤ n → 0 ≤ k' → k' ≤ 100000000000 + 1000 * n → (i < n → rdAt (marks el c n k) i.toNat d = el k') → L k' i = if i < (n : Int) then L (k' + c) (i + 1) else some (R k')) :
    L k 0 = some (R (k + c * n)) := by
  have hm := marks_length el c n k
  refine held_loop el d c hc hc2 (marks el c n k) (by omega) R L (fun k' i => ?_) n k 0 (by omega) (by omega) (by simp) hk (by omega)
  rw [hm]
  exact hL k' i

/-! ### Strings -/
/-- A string's bytes as numbers. -/
def bs (s : ByteArray) : List Int := s.data.toList.map fun b => (b.toNat : Int)
theorem bs_length (s : ByteArray) : (bs s).length = s.size := by simp [bs]
theorem bt_bs (s : ByteArray) (i : Int) : bt s i = rdAt (bs s) i.toNat 0 := by
  unfold bt rdAt bs
  rw [List.getD_eq_getElem?_getD, List.getElem?_map]
  by_cases h : i.toNat < s.size
  · rw [dif_pos h, List.getElem?_eq_getElem (by simpa using h)]; simp; rfl
  · rw [dif_neg h, List.getElem?_eq_none (by simpa using h)]; rfl
theorem toList_loop (s : ByteArray) (i : Nat) (r : List UInt8) : ByteArray.toList.loop s i r = r.reverse ++ s.data.toList.drop i := by
  unfold ByteArray.toList.loop
  split
  next h =>
    rw [toList_loop s (i + 1) (s.get! i :: r)]
    have h' : i < s.data.toList.length := by simpa using h
    rw [List.drop_eq_getElem_cons h']
    have : s.get! i = s.data.toList[i] := by
      show s.data[i]! = _
      rw [getElem!_pos s.data i (by simpa using h)]; simp
    rw [this]; simp
  next h =>
    rw [List.drop_eq_nil_of_le (by simpa using h)]; simp
  termination_by s.size - i
theorem toList_data (s : ByteArray) : s.toList = s.data.toList := by
  unfold ByteArray.toList; rw [toList_loop]; simp
theorem toList_eq_iff (a b : ByteArray) : a.toList = b.toList ↔ a = b := by
  rw [toList_data, toList_data]
  constructor
  · intro h
    cases a; cases b
    simp only [ByteArray.mk.injEq]
    exact Array.ext' h
  · intro h; rw [h]
theorem sEq_dec (a b : ByteArray) : sEq a b = decide (a = b) := by
  unfold sEq
  rw [Bool.eq_iff_iff, beq_iff_eq, decide_eq_true_eq, toList_eq_iff]
theorem es_bs (s : ByteArray) : s = es ↔ bs s = [] := by
  rw [← toList_eq_iff, toList_data, toList_data]
  simp [bs, es]
theorem bs_drop (s : ByteArray) (i j : Nat) (hj : s.size ≤ j) : bs (s.extract i j) = (bs s).drop i := by
  unfold bs
  rw [ByteArray.data_extract, ← List.map_drop]
  congr 1
  rw [Array.toList_extract]
  have : s.data.toList.length = s.size := by simp
  simp only [List.extract]
  rw [List.take_of_length_le (by rw [List.length_drop]; omega)]
theorem cond_dec {α : Type} {p : Prop} [Decidable p] {a b : α} : (bif decide p then a else b) = if p then a else b := Bool.cond_decide ..
theorem eqI_dec (a b : Int) : eqI a b = decide (a = b) := rfl
theorem ble_row {n m : Nat} (h : n ≤ 1000000000000) (hm : m ≤ 100) : Nat.ble (n * m) maxRow = true := Nat.ble_eq_true_of_le (by
  unfold maxRow
  have := Nat.mul_le_mul h hm
  omega)
theorem cutList_len {α : Type} (xs : List α) (l h : Int) : (cutList xs l h).length ≤ xs.length := by simp only [cutList, List.length_drop, List.length_take]; omega
/-- w elements from i on are replaced. -/
def repl {α : Type} (l : List α) (i w : Int) (xs : List α) : List α := (cutList l 0 i ++ xs) ++ cutList l (i + w) l.length
theorem repl_nat {α : Type} (l : List α) (i w : Nat) (xs : List α) : repl l (i : Int) (w : Int) xs = l.take i ++ xs ++ l.drop (i + w) := by
  unfold repl cutList
  rw [show ((i : Int) + (w : Int)).toNat = i + w by omega, Int.toNat_natCast, Int.toNat_natCast]
  simp
end Go.Proofs.YtoiafcghelgpdaaGreat.Ev
