/- Lemmas for FnExactChangesOf: what each function comes to. No condition. -/
import Derived.Test.YtcciackemicbbaaLFnExactChangesOf
namespace Go.Proofs.Ytcciackemicbbaa.Pure
open Go.RowKit Go.Proofs.Ytcciackemicbbaa.PFnExactChangesOf Go.Proofs.YtcciackemicbbaaW.PrintWords Go.Proofs.YtcciackemicbbaaW.PrintLast Go.Proofs.YtcciackemicbbaaW.PrintMore Go.Proofs.Ytcciackemicbbaa.Lim
set_option linter.unusedVariables false
set_option linter.unusedSimpArgs false

/-! #### basic -/
theorem w64 {n : Int} (h1 : -9223372036854775808 ≤ n) (h2 : n ≤ 9223372036854775807) : wrap64 n = n := by unfold wrap64; omega
theorem rd_drop {xs : List Int} {i : Int} {y : Int} {ys : List Int} (h0 : 0 ≤ i) (h : xs.drop i.toNat = y :: ys) : rd xs i = y ∧ i < xs.length ∧ xs.drop (i + 1).toNat = ys := by
 have h1 : i.toNat < xs.length := by
  by_cases e : i.toNat < xs.length
  ·exact e
  ·rw [List.drop_eq_nil_of_le (by omega)] at h; cases h
 rw [List.drop_eq_getElem_cons h1] at h
 injection h with ha hb
 refine ⟨?_, by omega, ?_⟩
 ·unfold rd; rw [List.getD_eq_getElem?_getD, List.getElem?_eq_getElem h1]; exact ha
 ·rw [show (i + 1).toNat = i.toNat + 1 by omega]; exact hb
theorem drop_nil {α : Type} {xs : List α} {i : Int} (h0 : 0 ≤ i) (hi : i ≤ xs.length) (h : xs.drop i.toNat = []) : i = xs.length := by
 have := congrArg List.length h
 simp at this
 omega
/-! #### bytes -/
/-- A string's bytes as numbers. -/
def bs (s : ByteArray) : List Int := s.data.toList.map fun b => (b.toNat : Int)
theorem bs_length (s : ByteArray) : (bs s).length = s.size := by simp [bs]
theorem bt_bs (s : ByteArray) (i : Int) : bt s i = rd (bs s) i := by
 unfold bt rd bs
 rw [List.getD_eq_getElem?_getD, List.getElem?_map]
 by_cases h : i.toNat < s.size
 ·rw [dif_pos h, List.getElem?_eq_getElem (by simpa using h)]; simp; rfl
 ·rw [dif_neg h, List.getElem?_eq_none (by simpa using h)]; rfl
theorem toList_loop (s : ByteArray) (i : Nat) (r : List UInt8) : ByteArray.toList.loop s i r = r.reverse ++ s.data.toList.drop i := by
 unfold ByteArray.toList.loop
 split
 next h =>
  rw [toList_loop s (i + 1) (s.get! i :: r)]
  have h' : i < s.data.toList.length := by simpa using h
  rw [List.drop_eq_getElem_cons h']
  have : s.get! i = s.data.toList[i] := by
   show s.data[i]! = _
   rw [getElem!_pos s.data i (by simpa using h)]; simp
  rw [this]; simp
 next h =>
  rw [List.drop_eq_nil_of_le (by simpa using h)]; simp
 termination_by s.size - i
theorem toList_data (s : ByteArray) : s.toList = s.data.toList := by
 unfold ByteArray.toList; rw [toList_loop]; simp
theorem toList_nil (s : ByteArray) : s.toList = [] ↔ bs s = [] := by rw [toList_data]; simp [bs]
theorem bs_drop (s : ByteArray) (i j : Nat) (hj : s.size ≤ j) : bs (s.extract i j) = (bs s).drop i := by
 unfold bs
 rw [ByteArray.data_extract, ← List.map_drop]
 congr 1
 rw [Array.toList_extract]
 have : s.data.toList.length = s.size := by simp
 simp only [List.extract]
 rw [List.take_of_length_le (by rw [List.length_drop]; omega)]
/-! #### keys -/
def letters (l : List Int) : Bool := l.all fun b => decide (97 ≤ b ∧ b ≤ 122)
/-- KeyValid, over the bytes. -/
def keyOk (l : List Int) : Bool := decide (1 ≤ l.length ∧ l.length ≤ 4) && letters l
theorem rd_zero {l : List Int} {b : Int} {t : List Int} (h : l = b :: t) : rd l 0 = b := by subst h; rfl
theorem impl_lettersOnly_f : ∀ (l : List Int) (s : ByteArray), bs s = l → impl_lettersOnly.fL s = some (letters l)
 | [], s, h => by rw [impl_lettersOnly.fL_eq, if_pos ((toList_nil s).2 h)]; rfl
 | b :: l, s, h => by
  have hs : s.size = l.length + 1 := by rw [← bs_length, h]; rfl
  have hn : ¬ s.toList = [] := by rw [toList_nil, h]; simp
  have hd : bs (s.extract 1 s.size) = l := by rw [bs_drop s 1 s.size (Nat.le_refl _), h]; rfl
  rw [impl_lettersOnly.fL_eq, if_neg hn, if_pos (by omega), bt_bs, rd_zero h, if_pos (by omega : (1 : Int) ≤ (s.size : Int)), impl_lettersOnly_f l _ hd, Option.bind_some]
  unfold letters
  rw [List.all_cons]
  by_cases h1 : b ≥ 97
  ·rw [if_pos h1]
   by_cases h2 : b ≤ 122
   ·rw [if_pos h2, show decide (97 ≤ b ∧ b ≤ 122) = true from decide_eq_true ⟨h1, h2⟩]; rfl
   ·rw [if_neg h2, show decide (97 ≤ b ∧ b ≤ 122) = false from decide_eq_false (by omega)]; rfl
  ·rw [if_neg h1, show decide (97 ≤ b ∧ b ≤ 122) = false from decide_eq_false (by omega)]; rfl
theorem impl_KeyValid_f (s : ByteArray) : impl_KeyValid.fL s = some (keyOk (bs s)) := by
 rw [impl_KeyValid.fL_eq, impl_lettersOnly_f _ s rfl, Option.bind_some]
 unfold keyOk
 rw [bs_length]
 by_cases h1 : (s.size : Int) < 1
 ·rw [if_pos h1, decide_eq_false (by omega)]; rfl
 ·rw [if_neg h1]
  by_cases h2 : (s.size : Int) > 4
  ·rw [if_pos h2, decide_eq_false (by omega)]; rfl
  ·rw [if_neg h2, decide_eq_true (by omega)]; rfl
theorem keyOk_len {l : List Int} (h : keyOk l = true) : 1 ≤ l.length ∧ l.length ≤ 4 := by
 simp only [keyOk, Bool.and_eq_true, decide_eq_true_eq] at h; exact h.1
theorem keyOk_letters {l : List Int} (h : keyOk l = true) : letters l = true := by
 simp only [keyOk, Bool.and_eq_true, decide_eq_true_eq] at h; exact h.2
theorem letters_cons {b : Int} {l : List Int} (h : letters (b :: l) = true) : (97 ≤ b ∧ b ≤ 122) ∧ letters l = true := by
 simp only [letters, List.all_cons, Bool.and_eq_true, decide_eq_true_eq] at h
 exact ⟨h.1, by simp only [letters]; exact h.2⟩

/-! #### spec_l1In -/
theorem spec_l1In_f (a lo hi : Int) : spec_l1In.f a lo hi = some (decide (lo ≤ a ∧ a ≤ hi)) := by
 unfold spec_l1In.f
 by_cases h : a ≥ lo
 ·rw [if_pos h]; congr 1; rw [decide_eq_decide]; omega
 ·rw [if_neg h]; congr 1; rw [eq_comm, decide_eq_false_iff_not]; omega

/-! #### valueValid -/
theorem impl_valueValid_f (v : Int) : impl_valueValid.f v = some (decide (0 ≤ v ∧ v ≤ 999)) := by
 unfold impl_valueValid.f
 by_cases h : v ≥ 0
 ·rw [if_pos h]; congr 1; rw [decide_eq_decide]; omega
 ·rw [if_neg h]; congr 1; rw [eq_comm, decide_eq_false_iff_not]; omega

/-! #### spec_KeyValid -/
theorem spec_KeyValid_l0 (s : ByteArray) (hs : s.size ≤ 1000) : ∀ (ys : List Int) (i : Int), 0 ≤ i → i ≤ s.size → (bs s).drop i.toNat = ys → spec_KeyValid.l0L s i = some (letters ys)
 | [], i, h0, h1, hd => by
  have := drop_nil h0 (by rw [bs_length]; exact h1) hd
  rw [bs_length] at this
  rw [spec_KeyValid.l0L_eq, if_neg (by omega)]; rfl
 | y :: ys, i, h0, h1, hd => by
  obtain ⟨hr, hl, hd'⟩ := rd_drop h0 hd
  rw [bs_length] at hl
  rw [spec_KeyValid.l0L_eq, if_pos hl, if_pos h0, bt_bs, hr, w64 (by omega) (by omega)]
  unfold letters
  rw [List.all_cons]
  by_cases e1 : y < 97
  ·rw [if_pos e1, decide_eq_false (by omega)]; rfl
  ·rw [if_neg e1]
   by_cases e2 : y > 122
   ·rw [if_pos e2, decide_eq_false (by omega)]; rfl
   ·rw [if_neg e2, decide_eq_true (by omega), spec_KeyValid_l0 s hs ys (i + 1) (by omega) (by omega) hd']; rfl
theorem spec_KeyValid_f (s : ByteArray) : spec_KeyValid.fL s = some (keyOk (bs s)) := by
 rw [spec_KeyValid.fL_eq, spec_l1In_f, Option.bind_some]
 unfold keyOk
 rw [bs_length]
 by_cases h : 1 ≤ (s.size : Int) ∧ (s.size : Int) ≤ 4
 ·rw [if_pos (by simpa using h), decide_eq_true (by omega), spec_KeyValid_l0 s (by omega) (bs s) 0 (by omega) (by omega) (by simp)]; rfl
 ·rw [if_neg (by simpa using h), decide_eq_false (by omega)]; rfl

/-! #### pairs -/
def klt (a b : ByteArray) : Bool := Op.bytesLess a.toList b.toList
/-- A pair alone is valid. -/
def pairItem (y : S181) : Bool := keyOk (bs y.f0) && decide (0 ≤ y.f1 ∧ y.f1 ≤ 999)
/-- The key is greater than the one before, if there is one. -/
def above : Option ByteArray → ByteArray → Bool
 | none, _ => true
 | some q, k => klt q k
def pairsFrom : Option ByteArray → List S181 → Bool
 | _, [] => true
 | p, y :: ys => pairItem y && above p y.f0 && pairsFrom (some y.f0) ys
def pairsOk (l : List S181) : Bool := decide (l.length ≤ 48) && pairsFrom none l
theorem getD_cons {α : Type} {xs : List α} {d : α} {i : Int} {y : α} {ys : List α} (h0 : 0 ≤ i) (h : xs.drop i.toNat = y :: ys) : xs.getD i.toNat d = y ∧ i < xs.length ∧ xs.drop (i + 1).toNat = ys := by
 have h1 : i.toNat < xs.length := by
  by_cases e : i.toNat < xs.length
  ·exact e
  ·rw [List.drop_eq_nil_of_le (by omega)] at h; cases h
 rw [List.drop_eq_getElem_cons h1] at h
 injection h with ha hb
 refine ⟨?_, by omega, ?_⟩
 ·rw [List.getD_eq_getElem?_getD, List.getElem?_eq_getElem h1]; exact ha
 ·rw [show (i + 1).toNat = i.toNat + 1 by omega]; exact hb

/-! #### sess -/
/-- A session alone is valid. -/
def sessItem (y : S217) : Bool := decide (0 ≤ y.f0 ∧ y.f0 ≤ 3) && decide (1 ≤ y.f1 ∧ y.f1 ≤ 999) && decide (-2 ≤ y.f2 ∧ y.f2 ≤ 999)
def sessFrom : Int → List S217 → Bool
 | _, [] => true
 | p, y :: ys => sessItem y && decide (p < y.f0) && sessFrom y.f0 ys
def sessOk (l : List S217) : Bool := sessFrom (-1) l
theorem sessItem_iff (y : S217) : sessItem y = true ↔ (0 ≤ y.f0 ∧ y.f0 ≤ 3) ∧ (1 ≤ y.f1 ∧ y.f1 ≤ 999) ∧ (-2 ≤ y.f2 ∧ y.f2 ≤ 999) := by
 unfold sessItem; rw [Bool.and_eq_true, Bool.and_eq_true, decide_eq_true_eq, decide_eq_true_eq, decide_eq_true_eq, and_assoc]
theorem sessFrom_iff : ∀ (l : List S217) (p : Int), sessFrom p l = true ↔ (∀ y ∈ l, sessItem y = true ∧ p < y.f0) ∧ l.Pairwise (fun a b => a.f0 < b.f0)
 | [], p => by simp [sessFrom]
 | x :: l, p => by
  have ih := sessFrom_iff l x.f0
  simp only [sessFrom, Bool.and_eq_true, decide_eq_true_eq, List.pairwise_cons, List.mem_cons]
  constructor
  ·intro h
   obtain ⟨h1, h2⟩ := ih.1 h.2
   refine ⟨fun c hc => ?_, fun c hc => (h1 c hc).2, h2⟩
   rcases hc with rfl | hc
   ·exact h.1
   ·exact ⟨(h1 c hc).1, by have := (h1 c hc).2; omega⟩
  ·intro h
   exact ⟨h.1 x (Or.inl rfl), ih.2 ⟨fun c hc => ⟨(h.1 c (Or.inr hc)).1, h.2.1 c hc⟩, h.2.2⟩⟩
theorem sessFrom_len : ∀ (l : List S217) (p : Int), p ≤ 3 → sessFrom p l = true → (l.length : Int) + p ≤ 3
 | [], p, h, _ => by simp; exact h
 | x :: l, p, h, hs => by
  simp only [sessFrom, Bool.and_eq_true, decide_eq_true_eq] at hs
  have hi := (sessItem_iff x).1 hs.1.1
  have := sessFrom_len l x.f0 hi.1.2 hs.2
  simp only [List.length_cons]; omega
theorem sessOk_len {l : List S217} (h : sessOk l = true) : l.length ≤ 4 := by
 have := sessFrom_len l (-1) (by omega) h; omega
theorem sessOk_iff (l : List S217) : sessOk l = true ↔ (∀ y ∈ l, sessItem y = true) ∧ l.Pairwise (fun a b => a.f0 < b.f0) := by
 unfold sessOk
 rw [sessFrom_iff]
 constructor
 ·rintro ⟨h1, h2⟩; exact ⟨fun y hy => (h1 y hy).1, h2⟩
 ·rintro ⟨h1, h2⟩; exact ⟨fun y hy => ⟨h1 y hy, by have := ((sessItem_iff y).1 (h1 y hy)).1; omega⟩, h2⟩
/-- Where a client's session is or belongs. -/
def splace (c : Int) : List S217 → Nat
 | [] => 0
 | y :: ys => if y.f0 < c then splace c ys + 1 else 0
theorem splace_le (c : Int) : ∀ l, splace c l ≤ l.length
 | [] => Nat.le_refl _
 | y :: ys => by
  have := splace_le c ys
  simp only [splace, List.length_cons]
  split <;> omega
def shit (c : Int) (l : List S217) : Bool := decide (splace c l < l.length ∧ (rd_T217 l (splace c l : Int)).f0 = c)
/-- The session of a client, or zeros. -/
def sessOf (l : List S217) (c : Int) : S217 := if shit c l = true then rd_T217 l (splace c l : Int) else ⟨0, 0, 0⟩
def sessPut (l : List S217) (s : S217) : List S217 × Bool :=
  if sessOk l = true ∧ sessItem s = true then
    (if shit s.f0 l = true then (if (rd_T217 l (splace s.f0 l : Int)).f1 ≥ s.f1 then (l, false) else (l.take (splace s.f0 l) ++ s :: l.drop (splace s.f0 l + 1), true))
     else (l.take (splace s.f0 l) ++ s :: l.drop (splace s.f0 l), true))
  else ([], false)
theorem sessPut_length (l : List S217) (s : S217) : (sessPut l s).1.length ≤ 5 := by
 unfold sessPut
 split
 ·rename_i h
  have h1 := sessOk_len h.1
  have h2 := splace_le s.f0 l
  split
  ·split
   ·show l.length ≤ 5; omega
   ·simp; omega
  ·simp; omega
 ·simp
theorem splace_app {c : Int} {B : List S217} (h2 : ∀ y ∈ B, c ≤ y.f0) : ∀ {A : List S217}, (∀ y ∈ A, y.f0 < c) → splace c (A ++ B) = A.length
 | [], _ => by
  cases B with
  | nil => rfl
  | cons y B => have := h2 y List.mem_cons_self; simp only [List.nil_append, splace]; rw [if_neg (by omega)]; rfl
 | x :: A, h1 => by
  simp only [List.cons_append, splace]
  rw [if_pos (h1 x List.mem_cons_self), splace_app h2 (fun y hy => h1 y (List.mem_cons_of_mem _ hy))]; rfl
theorem srd_app (A B : List S217) (y : S217) : rd_T217 (A ++ y :: B) (A.length : Int) = y := by
 unfold rd_T217
 rw [Int.toNat_natCast, List.getD_eq_getElem?_getD, List.getElem?_append_right (Nat.le_refl _)]; simp
theorem sess_split (c : Int) : ∀ l : List S217, l.Pairwise (fun a b => a.f0 < b.f0) → (∃ A B y, l = A ++ y :: B ∧ y.f0 = c ∧ (∀ y ∈ A, y.f0 < c) ∧ (∀ y ∈ B, c < y.f0)) ∨ (∃ A B, l = A ++ B ∧ (∀ y ∈ A, y.f0 < c) ∧ (∀ y ∈ B, c < y.f0))
 | [], _ => .inr ⟨[], [], rfl, (fun y hy => by cases hy), (fun y hy => by cases hy)⟩
 | x :: l, h => by
  rw [List.pairwise_cons] at h
  by_cases e : x.f0 < c
  ·have hA : ∀ A : List S217, (∀ y ∈ A, y.f0 < c) → ∀ y ∈ x :: A, y.f0 < c := fun A hA y hy => by
    rcases List.mem_cons.1 hy with rfl | hy
    ·exact e
    ·exact hA y hy
   rcases sess_split c l h.2 with ⟨A, B, y, rfl, h0, h1, h2⟩ | ⟨A, B, rfl, h1, h2⟩
   ·exact .inl ⟨x :: A, B, y, rfl, h0, hA A h1, h2⟩
   ·exact .inr ⟨x :: A, B, rfl, hA A h1, h2⟩
  ·by_cases e2 : x.f0 = c
   ·exact .inl ⟨[], l, x, rfl, e2, (fun y hy => by cases hy), fun y hy => by have := h.1 y hy; omega⟩
   ·refine .inr ⟨[], x :: l, rfl, (fun y hy => by cases hy), fun y hy => ?_⟩
    rcases List.mem_cons.1 hy with rfl | hy
    ·omega
    ·have := h.1 y hy; omega
theorem shit_app {c : Int} {A B : List S217} {y : S217} (h0 : y.f0 = c) (h1 : ∀ y ∈ A, y.f0 < c) (h2 : ∀ y ∈ B, c < y.f0) : splace c (A ++ y :: B) = A.length ∧ shit c (A ++ y :: B) = true := by
 have hp : splace c (A ++ y :: B) = A.length := splace_app (fun z hz => by
  rcases List.mem_cons.1 hz with rfl | hz
  ·omega
  ·have := h2 z hz; omega) h1
 refine ⟨hp, ?_⟩
 unfold shit; rw [hp, srd_app]; simp [h0]
theorem snohit_app {c : Int} {A B : List S217} (h1 : ∀ y ∈ A, y.f0 < c) (h2 : ∀ y ∈ B, c < y.f0) : splace c (A ++ B) = A.length ∧ shit c (A ++ B) = false := by
 have hp : splace c (A ++ B) = A.length := splace_app (fun z hz => by have := h2 z hz; omega) h1
 refine ⟨hp, ?_⟩
 unfold shit; rw [hp]
 cases B with
 | nil => simp
 | cons y B =>
  rw [srd_app, decide_eq_false]
  rintro ⟨_, e⟩
  have := h2 y List.mem_cons_self
  omega

/-! #### ivOk -/
/-- The least key of an interval with this lower bound. -/
def low (lo : ByteArray) : ByteArray := if lo.toList = [] then (⟨#[97]⟩ : ByteArray) else lo
def ivOk (lo hi : ByteArray) : Bool :=
 (decide (lo.toList = []) || keyOk (bs lo)) && (decide (hi.toList = []) || keyOk (bs hi)) && (decide (hi.toList = []) || Op.bytesLess (low lo).toList hi.toList)
/-! #### pairmap -/
theorem toList_eq {a b : ByteArray} : a.toList = b.toList ↔ a = b := by
 rw [toList_data, toList_data]
 exact ⟨fun h => ByteArray.ext (Array.toList_inj.mp h), fun h => by rw [h]⟩
/-- Where a key is or belongs: how many pairs stand before it. -/
def place (k : ByteArray) : List S181 → Nat
 | [] => 0
 | y :: ys => if klt y.f0 k = true then place k ys + 1 else 0
theorem place_le (k : ByteArray) : ∀ l, place k l ≤ l.length
 | [] => Nat.le_refl _
 | y :: ys => by
  have := place_le k ys
  simp only [place, List.length_cons]
  split <;> omega
/-- Is the key there? -/
def hit (k : ByteArray) (l : List S181) : Bool := decide (place k l < l.length ∧ (rd_T181 l (place k l : Int)).f0 = k)
theorem hit_lt {k : ByteArray} {l : List S181} (h : hit k l = true) : place k l < l.length := (of_decide_eq_true h).1
theorem hit_key {k : ByteArray} {l : List S181} (h : hit k l = true) : (rd_T181 l (place k l : Int)).f0 = k := (of_decide_eq_true h).2
def pairGet (l : List S181) (k : ByteArray) : Int := if pairsOk l = true then (if hit k l = true then (rd_T181 l (place k l : Int)).f1 else -1) else -1
def pairDrop (l : List S181) (k : ByteArray) : List S181 × Bool := if pairsOk l = true then (if hit k l = true then (l.take (place k l) ++ l.drop (place k l + 1), true) else (l, false)) else ([], false)
def pairPut (l : List S181) (k : ByteArray) (v : Int) : List S181 × Bool :=
 if pairsOk l = true ∧ keyOk (bs k) = true ∧ 0 ≤ v ∧ v ≤ 999 then
  (if hit k l = true then (l.take (place k l) ++ ⟨k, v⟩ :: l.drop (place k l + 1), true) else if 48 ≤ l.length then (l, false) else (l.take (place k l) ++ ⟨k, v⟩ :: l.drop (place k l), true))
 else ([], false)
theorem pairsOk_le {l : List S181} (h : pairsOk l = true) : l.length ≤ 48 := by
 simp only [pairsOk, Bool.and_eq_true, decide_eq_true_eq] at h; exact h.1
theorem pairPut_length (l : List S181) (k : ByteArray) (v : Int) : (pairPut l k v).1.length ≤ 48 := by
 unfold pairPut
 split
 ·rename_i h
  have h1 := pairsOk_le h.1
  have h2 := place_le k l
  split
  ·rename_i h3
   have := hit_lt h3
   simp; omega
  ·split
   ·exact h1
   ·simp; omega
 ·simp
theorem pairDrop_length (l : List S181) (k : ByteArray) : (pairDrop l k).1.length ≤ 48 := by
 unfold pairDrop
 split
 ·rename_i h
  have h1 := pairsOk_le h
  split
  ·simp; omega
  ·exact h1
 ·simp
theorem set_split {α : Type} (y : α) : ∀ (l : List α) (n : Nat), n < l.length → l.set n y = l.take n ++ y :: l.drop (n + 1)
 | [], n, h => by simp at h
 | x :: l, 0, h => by simp
 | x :: l, n + 1, h => by simp at h; simp [set_split y l n h]

/-! #### bless -/
theorem bless_irrefl : ∀ x : List UInt8, Op.bytesLess x x = false
 | [] => by simp [Op.bytesLess]
 | a :: x => by simp [Op.bytesLess, bless_irrefl x, UInt8.lt_irrefl]
theorem bless_total : ∀ x y : List UInt8, Op.bytesLess x y = false → Op.bytesLess y x = false → x = y
  | [], [], _, _ => rfl
  | [], b :: y, h, _ => by simp [Op.bytesLess] at h
  | a :: x, [], _, h => by simp [Op.bytesLess] at h
  | a :: x, b :: y, h, h2 => by
    simp only [Op.bytesLess, Bool.or_eq_false_iff, decide_eq_false_iff_not, Bool.and_eq_false_iff] at h h2
    have e : a = b := by
      apply UInt8.toNat_inj.1
      have h1 : ¬ a.toNat < b.toNat := fun c => h.1 (UInt8.lt_iff_toNat_lt.2 c)
      have h3 : ¬ b.toNat < a.toNat := fun c => h2.1 (UInt8.lt_iff_toNat_lt.2 c)
      omega
    subst e
    have hx : Op.bytesLess x y = false := by rcases h.2 with h | h; · simp at h
                                             · exact h
    have hy : Op.bytesLess y x = false := by rcases h2.2 with h | h; · simp at h
                                             · exact h
    rw [bless_total x y hx hy]
theorem bless_trans : ∀ x y z : List UInt8, Op.bytesLess x y = true → Op.bytesLess y z = true → Op.bytesLess x z = true
 | [], _, [], h, h2 => by cases h2' : Op.bytesLess ([] : List UInt8) [] <;> simp_all [Op.bytesLess]
 | [], _, c :: z, _, _ => by simp [Op.bytesLess]
 | a :: x, [], _, h, _ => by simp [Op.bytesLess] at h
 | a :: x, b :: y, [], _, h => by simp [Op.bytesLess] at h
 | a :: x, b :: y, c :: z, h, h2 => by
  simp only [Op.bytesLess, Bool.or_eq_true, decide_eq_true_eq, Bool.and_eq_true, beq_iff_eq] at h h2 ⊢
  simp only [UInt8.lt_iff_toNat_lt] at h h2 ⊢
  rcases h with h | ⟨e, h⟩
  ·rcases h2 with h2 | ⟨e2, h2⟩
   ·left; omega
   ·left; subst e2; exact h
  ·rcases h2 with h2 | ⟨e2, h2⟩
   ·left; subst e; exact h2
   ·right; exact ⟨e.trans e2, bless_trans x y z h h2⟩

/-! #### PairsIn -/
/-- Is a key between the bounds? -/
def inIv (lo hi k : ByteArray) : Bool := !klt k lo && (decide (hi.toList = []) || klt k hi)
/-! #### cmdOk -/
/-- A command is valid. -/
def cmdOk (k : Int) (s : ByteArray) (v o : Int) : Bool :=
 decide (1 ≤ k ∧ k ≤ 5) && (keyOk (bs s) || (decide (k = 5) && decide (s.toList = []))) &&
  (if k = 2 then decide (0 ≤ v ∧ v ≤ 999) && decide (o = 0) else if k = 4 then decide (0 ≤ v ∧ v ≤ 999) && decide (-1 ≤ o ∧ o ≤ 999) else decide (v = 0) && decide (o = 0))
theorem beq_dec (a b : Int) : (a == b) = decide (a = b) := by
 rw [Bool.eq_iff_iff]; simp
theorem bne_dec (l : List UInt8) : (l != []) = !decide (l = []) := by cases l <;> simp

/-! #### State -/
/-- Can an interval be cut at a key? -/
def cutOk (lo hi k : ByteArray) : Bool := ivOk lo hi && keyOk (bs k) && ivOk lo k && ivOk k hi
def stateOk (lo hi : ByteArray) (xs : List S181) (ys : List S217) (g : Bool) (s : ByteArray) : Bool :=
 ivOk lo hi && pairsOk xs && sessOk ys && xs.all (fun y => inIv lo hi y.f0) && (decide (s.toList = []) || (g && cutOk lo hi s))
def entOk (c n k : Int) (key : ByteArray) (v o : Int) : Bool := decide (0 ≤ c ∧ c ≤ 3) && decide (1 ≤ n ∧ n ≤ 999) && cmdOk k key v o
def takes (lo hi : ByteArray) (k : Int) (key : ByteArray) : Bool := if k = 5 then decide (key.toList = []) || cutOk lo hi key else inIv lo hi key
def applyCmd (xs : List S181) (k : Int) (key : ByteArray) (v o : Int) : List S181 × Int :=
  if pairsOk xs = true ∧ cmdOk k key v o = true ∧ ¬ k = 5 then
    (if k = 3 then ((pairDrop xs key).1, pairGet xs key)
     else if k = 1 ∨ (k = 4 ∧ ¬ o = pairGet xs key) then (xs, pairGet xs key)
     else if pairGet xs key = -1 ∧ 8 ≤ xs.length then (xs, -2)
     else ((pairPut xs key v).1, pairGet xs key))
  else ([], -3)
/-- A state after an entry, and the reply. -/
def applyEnt (lo hi : ByteArray) (xs : List S181) (ys : List S217) (g : Bool) (s : ByteArray) (c n k : Int) (key : ByteArray) (v o : Int) : ByteArray × ByteArray × List S181 × List S217 × Bool × ByteArray × Int :=
  if stateOk lo hi xs ys g s = true ∧ entOk c n k key v o = true then
    (if shit c ys = true ∧ n ≤ (sessOf ys c).f1 then (lo, hi, xs, ys, g, s, if n = (sessOf ys c).f1 then (sessOf ys c).f2 else -4)
     else if g = true ∨ takes lo hi k key = false then (lo, hi, xs, ys, g, s, -3)
     else if k = 5 then (lo, hi, xs, (sessPut ys ⟨c, n, 0⟩).1, true, key, 0)
     else (lo, hi, (applyCmd xs k key v o).1, (sessPut ys ⟨c, n, (applyCmd xs k key v o).2⟩).1, g, s, (applyCmd xs k key v o).2))
  else ((⟨#[]⟩ : ByteArray), (⟨#[]⟩ : ByteArray), [], [], false, (⟨#[]⟩ : ByteArray), -3)
def entE (e : S118) : Bool := entOk e.f0 e.f1 e.f2.f0 e.f2.f1 e.f2.f2 e.f2.f3
def applyE (lo hi : ByteArray) (xs : List S181) (ys : List S217) (g : Bool) (s : ByteArray) (e : S118) := applyEnt lo hi xs ys g s e.f0 e.f1 e.f2.f0 e.f2.f1 e.f2.f2 e.f2.f3
def changesFrom (lo hi : ByteArray) (xs : List S181) (ys : List S217) (g : Bool) (s : ByteArray) (i : Int) : List S118 → List S106
 | [] => []
 | e :: es => (if pairGet xs e.f2.f1 = pairGet (applyE lo hi xs ys g s e).2.2.1 e.f2.f1 then [] else [⟨i, e.f2.f1, pairGet xs e.f2.f1, pairGet (applyE lo hi xs ys g s e).2.2.1 e.f2.f1⟩]) ++
  changesFrom (applyE lo hi xs ys g s e).1 (applyE lo hi xs ys g s e).2.1 (applyE lo hi xs ys g s e).2.2.1 (applyE lo hi xs ys g s e).2.2.2.1 (applyE lo hi xs ys g s e).2.2.2.2.1 (applyE lo hi xs ys g s e).2.2.2.2.2.1 (i + 1) es
def logOk (es : List S118) : Bool := decide (es.length ≤ 24) && es.all entE
def changesOf (lo hi : ByteArray) (xs : List S181) (ys : List S217) (g : Bool) (s : ByteArray) (es : List S118) : List S106 :=
 if stateOk lo hi xs ys g s = true ∧ logOk es = true then changesFrom lo hi xs ys g s 0 es else []
theorem stateOk_says {lo hi : ByteArray} {xs : List S181} {ys : List S217} {g : Bool} {s : ByteArray} (h : stateOk lo hi xs ys g s = true) : ivOk lo hi = true ∧ pairsOk xs = true ∧ sessOk ys = true := by
 unfold stateOk at h
 rw [Bool.and_eq_true, Bool.and_eq_true, Bool.and_eq_true, Bool.and_eq_true] at h
 exact ⟨h.1.1.1.1, h.1.1.1.2, h.1.1.2⟩
theorem applyCmd_length (xs : List S181) (k : Int) (key : ByteArray) (v o : Int) : (applyCmd xs k key v o).1.length ≤ 48 := by
 unfold applyCmd
 split
 ·rename_i h
  have := pairsOk_le h.1
  split
  ·exact pairDrop_length _ _
  ·split
   ·exact this
   ·split
    ·exact this
    ·exact pairPut_length _ _ _
 ·simp
theorem applyEnt_length (lo hi : ByteArray) (xs : List S181) (ys : List S217) (g : Bool) (s : ByteArray) (c n k : Int) (key : ByteArray) (v o : Int) :
  (applyEnt lo hi xs ys g s c n k key v o).2.2.1.length ≤ 48 ∧ (applyEnt lo hi xs ys g s c n k key v o).2.2.2.1.length ≤ 5 := by
 unfold applyEnt
 split
 ·rename_i h
  obtain ⟨_, h2, h3⟩ := stateOk_says h.1
  have h2 := pairsOk_le h2
  have h3 := sessOk_len h3
  split
  ·exact ⟨h2, by show ys.length ≤ 5; omega⟩
  ·split
   ·exact ⟨h2, by show ys.length ≤ 5; omega⟩
   ·split
    ·exact ⟨h2, sessPut_length _ _⟩
    ·exact ⟨applyCmd_length _ _ _ _ _, sessPut_length _ _⟩
 ·exact ⟨by simp, by simp⟩
theorem changesFrom_length : ∀ (es : List S118) (lo hi : ByteArray) (xs : List S181) (ys : List S217) (g : Bool) (s : ByteArray) (i : Int), (changesFrom lo hi xs ys g s i es).length ≤ es.length
 | [], _, _, _, _, _, _, _ => by simp [changesFrom]
 | e :: es, lo, hi, xs, ys, g, s, i => by
  have := changesFrom_length es (applyE lo hi xs ys g s e).1 (applyE lo hi xs ys g s e).2.1 (applyE lo hi xs ys g s e).2.2.1 (applyE lo hi xs ys g s e).2.2.2.1 (applyE lo hi xs ys g s e).2.2.2.2.1 (applyE lo hi xs ys g s e).2.2.2.2.2.1 (i + 1)
  simp only [changesFrom, List.length_append, List.length_cons]
  split <;> simp <;> omega
theorem changesOf_length (lo hi : ByteArray) (xs : List S181) (ys : List S217) (g : Bool) (s : ByteArray) (es : List S118) : (changesOf lo hi xs ys g s es).length ≤ 24 := by
 unfold changesOf
 split
 ·rename_i h
  have h2 := h.2
  unfold logOk at h2
  rw [Bool.and_eq_true, decide_eq_true_eq] at h2
  exact Nat.le_trans (changesFrom_length es lo hi xs ys g s 0) h2.1
 ·simp

/-! #### impl_pairmap -/
theorem cmp_Compare_f (a b : ByteArray) : cmp_Compare_string.f a b = some (if klt a b = true then -1 else if klt b a = true then 1 else 0) := by
 have h : ∀ s : ByteArray, cmp_isNaN_string.f s = some false := fun s => by unfold cmp_isNaN_string.f; simp
 unfold cmp_Compare_string.f klt
 rw [h, h]
 simp only [Option.bind_some, Bool.false_eq_true, if_false]
 split
 ·rfl
 ·split <;> rfl
theorem impl_pairPlace1_f (a : ByteArray) (v : Int) (b : ByteArray) : impl_pairPlace_1.f a v b = some (if klt a b = true then -1 else if klt b a = true then 1 else 0) := by
 unfold impl_pairPlace_1.f
 rw [cmp_Compare_f]; rfl
theorem klt_trans {a b c : ByteArray} (h : klt a b = true) (h2 : klt b c = true) : klt a c = true := bless_trans _ _ _ h h2
theorem klt_irrefl (a : ByteArray) : klt a a = false := bless_irrefl _
theorem klt_total {a b : ByteArray} (h : klt a b = false) (h2 : klt b a = false) : a = b := toList_eq.1 (bless_total _ _ h h2)
/-- All keys of a list that ascend from p on are greater than p's. -/
theorem pairsFrom_all : ∀ (l : List S181) (p : ByteArray), pairsFrom (some p) l = true → ∀ y ∈ l, klt p y.f0 = true
 | [], p, _, y, hy => by cases hy
 | x :: xs, p, h, y, hy => by
  simp only [pairsFrom, Bool.and_eq_true] at h
  have hx : klt p x.f0 = true := h.1.2
  rcases List.mem_cons.1 hy with rfl | hy
  ·exact hx
  ·exact klt_trans hx (pairsFrom_all xs x.f0 h.2 y hy)
/-- In a list that ascends: before the place keys are less, behind it they are not. -/
theorem place_split (k : ByteArray) : ∀ (l : List S181) (p : Option ByteArray), pairsFrom p l = true → ∀ (i : Nat) (h : i < l.length), klt (l[i]).f0 k = decide (i < place k l)
 | [], p, _, i, h => by simp at h
 | x :: xs, p, hp, i, h => by
  simp only [pairsFrom, Bool.and_eq_true] at hp
  have ha := pairsFrom_all xs x.f0 hp.2
  by_cases e : klt x.f0 k = true
  ·simp only [place, if_pos e]
   cases i with
   | zero => simpa using e
   | succ i =>
    have := place_split k xs _ hp.2 i (by simpa using h)
    simp only [List.getElem_cons_succ, this, decide_eq_decide]
    omega
  ·simp only [place, if_neg e]
   cases i with
   | zero => simpa using e
   | succ i =>
    simp only [List.getElem_cons_succ, Nat.not_lt_zero, decide_false]
    cases hb : klt (xs[i]'(by simpa using h)).f0 k with
    | false => rfl
    | true => exact absurd (klt_trans (ha _ (List.getElem_mem _)) hb) e
theorem rd_getElem (l : List S181) (i : Int) (h : i.toNat < l.length) : rd_T181 l i = l[i.toNat] := by
 unfold rd_T181
 rw [List.getD_eq_getElem?_getD, List.getElem?_eq_getElem h]; rfl
theorem half_ (a b : Int) (ha : 0 ≤ a) (hb : 0 ≤ b) (ha2 : a ≤ 1000000) (hb2 : b ≤ 1000000) : wrap64 (IntKind.u64.wrap (wrap64 (a + b)) / 2) = (a + b) / 2 := by
 have e : IntKind.u64.wrap (a + b) = a + b := by
  simp only [IntKind.wrap, IntKind.signed, IntKind.bits, Bool.false_and, Bool.false_eq_true, if_false]
  omega
 rw [w64 (n := a + b) (by omega) (by omega), e, w64 (by omega) (by omega)]
theorem impl_search_l0 (xs : List S181) (k : ByteArray) (hok : pairsOk xs = true) : ∀ (n : Nat) (i j : Int), j - i ≤ n → 0 ≤ i → i ≤ (place k xs : Int) → (place k xs : Int) ≤ j → j ≤ xs.length →
  impl_Pair_string.l0L xs k (xs.length : Int) i j = some ((place k xs : Int), hit k xs)
 | n, i, j, hn, h0, hi, hj, hl => by
  have h48 := pairsOk_le hok
  have hp := place_le k xs
  rw [impl_Pair_string.l0L_eq]
  by_cases e : i < j
  ·match n with
   | 0 => omega
   | n + 1 =>
    have hr := rd_getElem xs ((i + j) / 2) (by omega)
    have hs := place_split k xs none (by simp only [pairsOk, Bool.and_eq_true, decide_eq_true_eq] at hok; exact hok.2) ((i + j) / 2).toNat (by omega)
    rw [if_pos e, half_ i j (by omega) (by omega) (by omega) (by omega), if_pos (by omega), if_pos (by omega), impl_pairPlace1_f, Option.bind_some, hr, hs]
    by_cases c : ((i + j) / 2).toNat < place k xs
    ·rw [decide_eq_true c, if_pos rfl, if_pos (by omega), w64 (by omega) (by omega)]
     exact impl_search_l0 xs k hok n _ j (by omega) (by omega) (by omega) hj hl
    ·rw [decide_eq_false c, if_neg (show ¬ (false = true) by simp)]
     have c2 : ¬ (if klt k (xs[((i + j) / 2).toNat]'(by omega)).f0 = true then (1 : Int) else 0) < 0 := by split <;> omega
     rw [if_neg c2]
     exact impl_search_l0 xs k hok n i _ (by omega) h0 hi (by omega) (by omega)
  ·have hij : i = (place k xs : Int) := by omega
   rw [if_neg e, hij]
   by_cases c : (place k xs : Int) < (xs.length : Int)
   ·have hr := rd_getElem xs (place k xs : Int) (by omega)
    have hs := place_split k xs none (by simp only [pairsOk, Bool.and_eq_true, decide_eq_true_eq] at hok; exact hok.2) (place k xs) (by omega)
    rw [if_pos c, if_pos (by omega), if_pos c, impl_pairPlace1_f, Option.bind_some]
    have hrd : rd_T181 xs (place k xs : Int) = xs[place k xs]'(by omega) := by rw [hr]; rfl
    rw [hrd, hs, decide_eq_false (by omega), if_neg (show ¬ (false = true) by simp)]
    have : hit k xs = ((if klt k (xs[place k xs]'(by omega)).f0 = true then (1 : Int) else 0) == 0) := by
     unfold hit
     rw [hrd]
     cases hb : klt k (xs[place k xs]'(by omega)).f0 with
     | true =>
      rw [if_pos rfl, decide_eq_false]
      ·rfl
      ·rintro ⟨_, he⟩; rw [he, klt_irrefl] at hb; cases hb
     | false =>
      rw [if_neg (by simp), decide_eq_true ⟨by omega, klt_total (by rw [hs]; simp) hb⟩]; rfl
    rw [this]
   ·rw [if_neg c]
    have : hit k xs = false := by unfold hit; rw [decide_eq_false (fun h => c (by omega))]
    rw [this]
theorem impl_pairPlace_f (xs : List S181) (k : ByteArray) (hok : pairsOk xs = true) : impl_pairPlace.fL xs k = some ((place k xs : Int), hit k xs) := by
 have hp := place_le k xs
 rw [impl_pairPlace.fL_eq, impl_Pair_string.fL_eq, impl_search_l0 xs k hok xs.length 0 (xs.length : Int) (by omega) (by omega) (by omega) (by omega) (by omega), Option.bind_some]

/-! #### impl_sess -/
theorem impl_seqValid_e (a : Int) : impl_seqValid.f a = some (decide (1 ≤ a ∧ a ≤ 999)) := by
 unfold impl_seqValid.f
 by_cases h : a ≥ 1
 ·rw [if_pos h]; congr 1; rw [decide_eq_decide]; omega
 ·rw [if_neg h, decide_eq_false (by omega)]
theorem impl_SessionsValid_l0 (xs : List S217) (hx : xs.length ≤ 1000000000000) : ∀ (ys : List S217) (i p : Int), 0 ≤ i → i ≤ xs.length → xs.drop i.toNat = ys → (i = 0 → p = -1) → (0 < i → p = (rd_T217 xs (i - 1)).f0) → impl_SessionsValid.l0L xs xs (xs.length : Int) i = some (sessFrom p ys)
 | [], i, p, h0, h1, hd, hp0, hp1 => by
  have := drop_nil h0 h1 hd
  rw [impl_SessionsValid.l0L_eq, if_neg (by omega)]; rfl
 | y :: ys, i, p, h0, h1, hd, hp0, hp1 => by
  obtain ⟨hr0, hl, hd'⟩ := getD_cons (d := z217) h0 hd
  have hr : rd_T217 xs i = y := hr0
  have ih := impl_SessionsValid_l0 xs hx ys (i + 1) y.f0 (by omega) (by omega) hd' (fun h => by omega) (fun _ => by rw [show i + 1 - 1 = i by omega, hr])
  have j : ∀ b : Bool, (impl_SessionsValid.j1L xs i xs (xs.length : Int) i b y.f0 y.f1 y.f2 = if b = true then some false else some (decide (p < y.f0) && sessFrom y.f0 ys)) ∨ (y.f0 < 0) := by
   intro b
   by_cases hy : y.f0 < 0
   ·exact .inr hy
   ·left
    rw [impl_SessionsValid.j1L_eq, w64 (n := i + 1) (by omega) (by omega), w64 (n := i - 1) (by omega) (by omega), ih]
    cases b with
    | true => rw [if_pos rfl, if_pos rfl]
    | false =>
     rw [if_neg (by simp), if_neg (show ¬ (false = true) by simp)]
     by_cases hi : i > 0
     ·rw [if_pos hi, if_pos (by omega), if_pos (by omega), ← hp1 hi]
      by_cases e : p ≥ y.f0
      ·rw [if_pos e, decide_eq_false (by omega)]; rfl
      ·rw [if_neg e, decide_eq_true (p := p < y.f0) (by omega), Bool.true_and]
     ·rw [if_neg hi, hp0 (by omega), decide_eq_true (p := -1 < y.f0) (by omega), Bool.true_and]
  have jt : impl_SessionsValid.j1L xs i xs (xs.length : Int) i true y.f0 y.f1 y.f2 = some false := by rw [impl_SessionsValid.j1L_eq, if_pos rfl]
  have no : ∀ R : Bool, sessItem y = false → some false = some (sessItem y && R && sessFrom y.f0 ys) := fun R h => by rw [h]; rfl
  rw [impl_SessionsValid.l0L_eq, if_pos hl, if_pos h0, if_pos hl, hr, impl_seqValid_e, Option.bind_some, jt]
  simp only [sessFrom]
  by_cases c1 : y.f0 < 0
  ·rw [if_pos c1]; exact no _ (by unfold sessItem; rw [decide_eq_false (p := 0 ≤ y.f0 ∧ y.f0 ≤ 3) (by omega)]; rfl)
  ·have j := fun b => (j b).resolve_right c1
   rw [if_neg c1, j]
   by_cases c2 : y.f0 ≥ 4
   ·rw [if_pos c2]; exact no _ (by unfold sessItem; rw [decide_eq_false (p := 0 ≤ y.f0 ∧ y.f0 ≤ 3) (by omega)]; rfl)
   ·rw [if_neg c2]
    by_cases c3 : 1 ≤ y.f1 ∧ y.f1 ≤ 999
    ·rw [decide_eq_true c3, if_pos rfl]
     by_cases c4 : y.f2 < -2
     ·rw [if_pos c4]; exact no _ (by unfold sessItem; rw [decide_eq_false (p := -2 ≤ y.f2 ∧ y.f2 ≤ 999) (by omega)]; simp)
     ·rw [if_neg c4]
      by_cases c5 : y.f2 > 999
      ·rw [decide_eq_true c5, if_pos rfl]; exact no _ (by unfold sessItem; rw [decide_eq_false (p := -2 ≤ y.f2 ∧ y.f2 ≤ 999) (by omega)]; simp)
      ·rw [decide_eq_false c5, if_neg (by simp)]
       have : sessItem y = true := (sessItem_iff y).2 ⟨by omega, c3, by omega⟩
       rw [this, Bool.true_and]
    ·rw [decide_eq_false c3, if_neg (by simp)]; exact no _ (by unfold sessItem; rw [decide_eq_false c3]; simp)
theorem impl_SessionsValid_f (xs : List S217) (hx : xs.length ≤ 1000000000000) : impl_SessionsValid.fL xs = some (sessOk xs) := by
 rw [impl_SessionsValid.fL_eq, impl_SessionsValid_l0 xs hx xs 0 (-1) (by omega) (by omega) (by simp) (fun _ => rfl) (fun h => by omega)]; rfl
theorem cmp_Compare_int_e (a b : Int) : cmp_Compare_int.f a b = some (if a < b then -1 else if b < a then 1 else 0) := by
 have h : ∀ s : Int, cmp_isNaN_int.f s = some false := fun s => by unfold cmp_isNaN_int.f; simp
 unfold cmp_Compare_int.f
 rw [h, h]
 simp only [Option.bind_some, Bool.false_eq_true, if_false]
 by_cases c : a < b
 ·rw [if_pos c, if_pos c]
 ·rw [if_neg c, if_neg c]
  by_cases d : b < a
  ·rw [if_pos d, if_pos d]
  ·rw [if_neg d, if_neg d]
theorem impl_sessionPlace1_f (a b c d : Int) : impl_sessionPlace_1.f a b c d = some (if a < d then -1 else if d < a then 1 else 0) := by
 unfold impl_sessionPlace_1.f
 rw [cmp_Compare_int_e]; rfl
theorem splace_split (c : Int) : ∀ l : List S217, l.Pairwise (fun a b => a.f0 < b.f0) → ∀ (i : Nat) (h : i < l.length), ((l[i]).f0 < c ↔ i < splace c l)
 | [], _, i, h => by simp at h
 | x :: xs, hp, i, h => by
  rw [List.pairwise_cons] at hp
  by_cases e : x.f0 < c
  ·simp only [splace, if_pos e]
   cases i with
   | zero => simpa using e
   | succ i =>
    have := splace_split c xs hp.2 i (by simpa using h)
    simp only [List.getElem_cons_succ, this]
    omega
  ·simp only [splace, if_neg e]
   cases i with
   | zero => simpa using e
   | succ i =>
    have := hp.1 _ (List.getElem_mem (show i < xs.length by simpa using h))
    simp only [List.getElem_cons_succ, Nat.not_lt_zero, iff_false]
    omega
theorem srd_getElem (l : List S217) (i : Int) (h : i.toNat < l.length) : rd_T217 l i = l[i.toNat] := by
 unfold rd_T217
 rw [List.getD_eq_getElem?_getD, List.getElem?_eq_getElem h]; rfl
theorem impl_ssearch_l0 (xs : List S217) (k : Int) (hp : xs.Pairwise (fun a b => a.f0 < b.f0)) (hx : xs.length ≤ 100000) : ∀ (n : Nat) (i j : Int), j - i ≤ n → 0 ≤ i → i ≤ (splace k xs : Int) → (splace k xs : Int) ≤ j → j ≤ xs.length →
  impl_Session_int.l0L xs k (xs.length : Int) i j = some ((splace k xs : Int), shit k xs)
 | n, i, j, hn, h0, hi, hj, hl => by
  have hpl := splace_le k xs
  rw [impl_Session_int.l0L_eq]
  by_cases e : i < j
  ·match n with
   | 0 => omega
   | n + 1 =>
    have hr := srd_getElem xs ((i + j) / 2) (by omega)
    have hs := splace_split k xs hp ((i + j) / 2).toNat (by omega)
    rw [if_pos e, half_ i j (by omega) (by omega) (by omega) (by omega), if_pos (by omega), if_pos (by omega), impl_sessionPlace1_f, Option.bind_some, hr]
    by_cases c : ((i + j) / 2).toNat < splace k xs
    ·rw [if_pos (hs.2 c), if_pos (by omega), w64 (by omega) (by omega)]
     exact impl_ssearch_l0 xs k hp hx n _ j (by omega) (by omega) (by omega) hj hl
    ·rw [if_neg (fun q => c (hs.1 q))]
     have c2 : ¬ (if k < (xs[((i + j) / 2).toNat]'(by omega)).f0 then (1 : Int) else 0) < 0 := by split <;> omega
     rw [if_neg c2]
     exact impl_ssearch_l0 xs k hp hx n i _ (by omega) h0 hi (by omega) (by omega)
  ·have hij : i = (splace k xs : Int) := by omega
   rw [if_neg e, hij]
   by_cases c : (splace k xs : Int) < (xs.length : Int)
   ·have hr := srd_getElem xs (splace k xs : Int) (by omega)
    have hs := splace_split k xs hp (splace k xs) (by omega)
    rw [if_pos c, if_pos (by omega), if_pos c, impl_sessionPlace1_f, Option.bind_some]
    have hrd : rd_T217 xs (splace k xs : Int) = xs[splace k xs]'(by omega) := by rw [hr]; rfl
    have hn : ¬ (xs[splace k xs]'(by omega)).f0 < k := fun q => by have := hs.1 q; omega
    rw [hrd, if_neg hn]
    have : shit k xs = ((if k < (xs[splace k xs]'(by omega)).f0 then (1 : Int) else 0) == 0) := by
     unfold shit
     rw [hrd]
     by_cases hb : k < (xs[splace k xs]'(by omega)).f0
     ·rw [if_pos hb, decide_eq_false (fun q => by omega)]; rfl
     ·rw [if_neg hb, decide_eq_true ⟨by omega, by omega⟩]; rfl
    rw [this]
   ·rw [if_neg c]
    have : shit k xs = false := by unfold shit; rw [decide_eq_false (fun h => c (by omega))]
    rw [this]
theorem impl_sessionPlace_f (xs : List S217) (k : Int) (hok : sessOk xs = true) : impl_sessionPlace.fL xs k = some ((splace k xs : Int), shit k xs) := by
 have hp := splace_le k xs
 have h4 := sessOk_len hok
 rw [impl_sessionPlace.fL_eq, impl_Session_int.fL_eq, impl_ssearch_l0 xs k ((sessOk_iff xs).1 hok).2 (by omega) xs.length 0 (xs.length : Int) (by omega) (by omega) (by omega) (by omega) (by omega), Option.bind_some]
theorem impl_copySess_f (xs : List S217) (hx : xs.length ≤ 1000000000000) : impl_Session_180.f xs = some xs := by
 unfold impl_Session_180.f
 rw [if_pos (by simp; omega)]; simp
theorem impl_replacedS_f (xs ys : List S217) (i m : Nat) (hi : i + m ≤ xs.length) (hx : xs.length ≤ 1000000) (hy : ys.length ≤ 1000000) : impl_Session_223.f xs (i : Int) (m : Int) ys = some (xs.take i ++ ys ++ xs.drop (i + m)) := by
 unfold impl_Session_223.f
 have e1 : (([] : List S217) ++ xs.take i).length ≤ 1000000 := by simp; omega
 have e2 : (([] : List S217) ++ xs.take i ++ ys).length ≤ 2000000 := by simp; omega
 rw [w64 (n := (xs.length : Int) - m) (by omega) (by omega), w64 (n := (xs.length : Int) - m + ys.length) (by omega) (by omega), w64 (n := (i : Int) + m) (by omega) (by omega), if_pos (by omega), if_pos (by omega), Option.bind_some, if_pos (by omega), if_pos (by omega), Option.bind_some,
  Int.toNat_natCast, if_pos (by simp; omega), Option.bind_some, if_pos (by omega), Option.bind_some, if_pos (by omega), if_pos (by omega), Option.bind_some, if_pos (by simp; omega), show ((i : Int) + m).toNat = i + m by omega, List.nil_append]
theorem sessOk_one (s : S217) : sessOk [s] = sessItem s := by
 cases h : sessItem s with
 | true => exact (sessOk_iff [s]).2 ⟨fun y hy => by simp at hy; rw [hy]; exact h, by simp⟩
 | false =>
  cases h2 : sessOk [s] with
  | false => rfl
  | true => have := ((sessOk_iff [s]).1 h2).1 s (by simp); rw [h] at this; cases this
theorem impl_SessionPut_f (xs : List S217) (a b c : Int) (hx : xs.length ≤ 1000000000000) : impl_SessionPut.fL xs a b c = some (sessPut xs ⟨a, b, c⟩) := by
 have jt : impl_SessionPut.j0L xs true a b c = some ([], false) := by rw [impl_SessionPut.j0L_eq, if_pos rfl]
 rw [impl_SessionPut.fL_eq, impl_SessionsValid_f xs hx, Option.bind_some, impl_SessionsValid_f _ (by simp), Option.bind_some, sessOk_one]
 unfold sessPut
 by_cases h1 : sessOk xs = true
 ·have h4 := sessOk_len h1
  have hp := splace_le a xs
  rw [if_pos h1]
  by_cases h2 : sessItem (⟨a, b, c⟩ : S217) = true
  ·rw [if_pos ⟨h1, h2⟩, h2, Bool.not_true, impl_SessionPut.j0L_eq, if_neg (by simp), impl_sessionPlace_f xs a h1, Option.bind_some]
   dsimp only
   by_cases h : shit a xs = true
   ·have hlt : splace a xs < xs.length := (of_decide_eq_true h).1
    have hr := impl_replacedS_f xs [⟨a, b, c⟩] (splace a xs) 1 (by omega) (by omega) (by simp)
    rw [if_pos h, if_pos (by omega), if_pos (by omega), if_pos h, impl_copySess_f xs (by omega), Option.bind_some]
    by_cases q : (rd_T217 xs (splace a xs : Int)).f1 ≥ b
    ·rw [if_pos q, if_pos q]
    ·rw [if_neg q, if_neg q, show (1 : Int) = ((1 : Nat) : Int) from rfl, hr, Option.bind_some]; simp
   ·have hr := impl_replacedS_f xs [⟨a, b, c⟩] (splace a xs) 0 (by omega) (by omega) (by simp)
    rw [if_neg h, if_neg h, show (0 : Int) = ((0 : Nat) : Int) from rfl, hr, Option.bind_some]; simp
  ·rw [if_neg (fun q => h2 q.2), Bool.eq_false_iff.2 h2, Bool.not_false, jt]
 ·rw [if_neg h1, jt, if_neg (fun q => h1 q.1)]

/-! #### ivimpl -/
theorem impl_lowestKey_f (lo hi : ByteArray) : impl_lowestKey.f lo hi = some (low lo) := by
 unfold impl_lowestKey.f low
 split <;> rfl
theorem impl_IntervalValid_f (lo hi : ByteArray) : impl_IntervalValid.fL lo hi = some (ivOk lo hi) := by
 rw [impl_IntervalValid.fL_eq, impl_KeyValid_f, impl_KeyValid_f, impl_lowestKey_f]
 simp only [Option.bind_some]
 unfold ivOk
 by_cases h1 : lo.toList = []
 ·rw [if_pos h1, decide_eq_true h1]
  by_cases h2 : hi.toList = []
  ·rw [if_pos h2, decide_eq_true h2]; rfl
  ·rw [if_neg h2, decide_eq_false h2]
   cases keyOk (bs hi) <;> simp
 ·rw [if_neg h1, decide_eq_false h1]
  by_cases h2 : hi.toList = []
  ·rw [if_pos h2, decide_eq_true h2]
   cases keyOk (bs lo) <;> simp
  ·rw [if_neg h2, decide_eq_false h2]
   cases keyOk (bs lo) <;> cases keyOk (bs hi) <;> simp

/-! #### inside -/
theorem impl_inside_f (lo hi k : ByteArray) : impl_inside.f lo hi k = some (inIv lo hi k) := by
 unfold impl_inside.f inIv klt
 cases Op.bytesLess k.toList lo.toList with
 | true => simp
 | false =>
  rw [if_neg (by simp)]
  by_cases e : hi.toList = []
  ·rw [if_pos e, decide_eq_true e]; rfl
  ·rw [if_neg e, decide_eq_false e]; simp

/-! #### impl_PairsValid -/
theorem impl_PairsValid_l0 (xs : List S181) (hx : xs.length ≤ 48) : ∀ (ys : List S181) (i : Int) (p : Option ByteArray), 0 ≤ i → i ≤ xs.length → xs.drop i.toNat = ys → (i = 0 → p = none) → (0 < i → p = some (rd_T181 xs (i - 1)).f0) → impl_PairsValid.l0L xs xs (xs.length : Int) i = some (pairsFrom p ys)
 | [], i, p, h0, h1, hd, hp0, hp1 => by
  have := drop_nil h0 h1 hd
  rw [impl_PairsValid.l0L_eq, if_neg (by omega)]; rfl
 | y :: ys, i, p, h0, h1, hd, hp0, hp1 => by
  obtain ⟨hr0, hl, hd'⟩ := getD_cons (d := z181) h0 hd
  have hr : rd_T181 xs i = y := hr0
  have hnext := impl_PairsValid_l0 xs hx ys (i + 1) (some y.f0) (by omega) (by omega) hd' (fun h => by omega) (fun _ => by rw [show i + 1 - 1 = i by omega, hr])
  rw [impl_PairsValid.l0L_eq, if_pos hl, if_pos h0, if_pos hl, hr, impl_KeyValid_f, Option.bind_some, impl_valueValid_f, Option.bind_some]
  simp only [impl_PairsValid.j1L_eq, w64 (n := i - 1) (by omega) (by omega), w64 (n := i + 1) (by omega) (by omega), if_true, pairsFrom, pairItem]
  cases hk : keyOk (bs y.f0) with
  | false => simp
  | true =>
   by_cases hv : 0 ≤ y.f1 ∧ y.f1 ≤ 999
   ·rw [decide_eq_true hv]
    by_cases hi : i > 0
    ·rw [if_pos rfl, if_neg (by simp), if_pos hi, if_pos (by omega), if_pos (by omega), hp1 hi, hnext]
     simp only [above, klt]
     cases Op.bytesLess (rd_T181 xs (i - 1)).f0.toList y.f0.toList <;> simp
    ·rw [if_pos rfl, if_neg (by simp), if_neg hi, hp0 (by omega), hnext]
     simp [above]
   ·rw [decide_eq_false hv]; simp
theorem impl_PairsValid_f (xs : List S181) : impl_PairsValid.fL xs = some (pairsOk xs) := by
 rw [impl_PairsValid.fL_eq]
 unfold pairsOk
 by_cases h : (xs.length : Int) > 48
 ·rw [if_pos h, decide_eq_false (by omega)]; rfl
 ·rw [if_neg h, decide_eq_true (by omega), impl_PairsValid_l0 xs (by omega) xs 0 none (by omega) (by omega) (by simp) (fun _ => rfl) (fun h => by omega)]; rfl

/-! #### impl_PairGet -/
theorem impl_PairGet_f (xs : List S181) (k : ByteArray) : impl_PairGet.fL xs k = some (pairGet xs k) := by
 rw [impl_PairGet.fL_eq, impl_PairsValid_f, Option.bind_some]
 unfold pairGet
 by_cases h1 : pairsOk xs = true
 ·rw [if_pos h1, if_pos h1, impl_pairPlace_f xs k h1, Option.bind_some]
  dsimp only
  by_cases h : hit k xs = true
  ·have := hit_lt h
   rw [if_pos h, if_pos (by omega), if_pos (by omega), if_pos h]
  ·rw [if_neg h, if_neg h]
 ·rw [if_neg h1, if_neg h1]

/-! #### impl_copyPairs -/
theorem impl_copyOf_f (xs : List S181) (hx : xs.length ≤ 1000000000000) : impl_Pair_126.f xs = some xs := by
 unfold impl_Pair_126.f
 rw [if_pos (by simp; omega)]; simp

/-! #### impl_replacedPairs -/
theorem impl_replaced_f (xs ys : List S181) (i m : Nat) (hi : i + m ≤ xs.length) (hx : xs.length ≤ 1000000) (hy : ys.length ≤ 1000000) : impl_Pair_192.f xs (i : Int) (m : Int) ys = some (xs.take i ++ ys ++ xs.drop (i + m)) := by
 unfold impl_Pair_192.f
 have e1 : (([] : List S181) ++ xs.take i).length ≤ 1000000 := by simp; omega
 have e2 : (([] : List S181) ++ xs.take i ++ ys).length ≤ 2000000 := by simp; omega
 rw [w64 (n := (xs.length : Int) - m) (by omega) (by omega), w64 (n := (xs.length : Int) - m + ys.length) (by omega) (by omega), w64 (n := (i : Int) + m) (by omega) (by omega), if_pos (by omega), if_pos (by omega), Option.bind_some, if_pos (by omega), if_pos (by omega), Option.bind_some,
  Int.toNat_natCast, if_pos (by simp; omega), Option.bind_some, if_pos (by omega), Option.bind_some, if_pos (by omega), if_pos (by omega), Option.bind_some, if_pos (by simp; omega), show ((i : Int) + m).toNat = i + m by omega, List.nil_append]

/-! #### impl_PairPut -/
theorem impl_PairPut_f (xs : List S181) (k : ByteArray) (v : Int) : impl_PairPut.fL xs k v = some (pairPut xs k v) := by
 have hj : impl_PairPut.j0L xs k v true = some ([], false) := by rw [impl_PairPut.j0L_eq, if_pos rfl]
 rw [impl_PairPut.fL_eq, impl_PairsValid_f, Option.bind_some]
 unfold pairPut
 by_cases h1 : pairsOk xs = true
 ·have h48 := pairsOk_le h1
  have hp := place_le k xs
  rw [if_pos h1, impl_KeyValid_f, Option.bind_some]
  by_cases h2 : keyOk (bs k) = true
  ·rw [if_pos h2, impl_valueValid_f, Option.bind_some]
   by_cases h3 : 0 ≤ v ∧ v ≤ 999
   ·rw [if_pos ⟨h1, h2, h3⟩, decide_eq_true h3, Bool.not_true, impl_PairPut.j0L_eq, if_neg (by simp), impl_pairPlace_f xs k h1, Option.bind_some]
    dsimp only
    by_cases h : hit k xs = true
    ·have := hit_lt h
     have hr := impl_replaced_f xs [⟨k, v⟩] (place k xs) 1 (by omega) (by omega) (by simp)
     rw [if_pos h, if_pos h, show (1 : Int) = ((1 : Nat) : Int) from rfl, hr, Option.bind_some]; simp
    ·rw [if_neg h, if_neg h]
     by_cases h4 : 48 ≤ xs.length
     ·rw [if_pos (by omega), if_pos h4, impl_copyOf_f xs (by omega), Option.bind_some]
     ·have hr := impl_replaced_f xs [⟨k, v⟩] (place k xs) 0 (by omega) (by omega) (by simp)
      rw [if_neg (by omega), if_neg h4, show (0 : Int) = ((0 : Nat) : Int) from rfl, hr, Option.bind_some]; simp
   ·rw [decide_eq_false h3, Bool.not_false, hj, if_neg (fun h => h3 h.2.2)]
  ·rw [if_neg h2, hj, if_neg (fun h => h2 h.2.1)]
 ·rw [if_neg h1, hj, if_neg (fun h => h1 h.1)]

/-! #### impl_PairDrop -/
theorem impl_PairDrop_f (xs : List S181) (k : ByteArray) : impl_PairDrop.fL xs k = some (pairDrop xs k) := by
 rw [impl_PairDrop.fL_eq, impl_PairsValid_f, Option.bind_some]
 unfold pairDrop
 by_cases h1 : pairsOk xs = true
 ·have h48 := pairsOk_le h1
  rw [if_pos h1, if_pos h1, impl_pairPlace_f xs k h1, Option.bind_some]
  dsimp only
  by_cases h : hit k xs = true
  ·have := hit_lt h
   have hr := impl_replaced_f xs [] (place k xs) 1 (by omega) (by omega) (by simp)
   rw [if_pos h, if_pos h, show (1 : Int) = ((1 : Nat) : Int) from rfl, hr, Option.bind_some]; simp
  ·rw [if_neg h, if_neg h, impl_copyOf_f xs (by omega), Option.bind_some]
 ·rw [if_neg h1, if_neg h1]

/-! #### CommandValid -/
theorem impl_CommandValid_f (k : Int) (s : ByteArray) (v o : Int) : impl_CommandValid.fL k s v o = some (cmdOk k s v o) := by
 have hj : impl_CommandValid.j1L false k s v o = some (if k = 2 then decide (0 ≤ v ∧ v ≤ 999) && decide (o = 0) else if k = 4 then decide (0 ≤ v ∧ v ≤ 999) && decide (-1 ≤ o ∧ o ≤ 999) else decide (v = 0) && decide (o = 0)) := by
  rw [impl_CommandValid.j1L_eq, if_neg (by simp), impl_valueValid_f, Option.bind_some, impl_valueValid_f, Option.bind_some]
  by_cases h2 : k = 2
  ·rw [if_pos h2, if_pos h2]
   by_cases hv : 0 ≤ v ∧ v ≤ 999
   ·rw [if_pos (by simpa using hv), decide_eq_true hv, beq_dec]; rfl
   ·rw [if_neg (by simpa using hv), decide_eq_false hv]; rfl
  ·rw [if_neg h2, if_neg h2]
   by_cases h4 : k = 4
   ·rw [if_pos h4, if_pos h4, Option.bind_some]
    by_cases hv : 0 ≤ v ∧ v ≤ 999
    ·rw [if_pos (by simpa using hv), decide_eq_true hv]
     by_cases ho : o = -1
     ·rw [if_pos ho, decide_eq_true (by omega)]; rfl
     ·rw [if_neg ho, Bool.true_and]; congr 1; rw [decide_eq_decide]; omega
    ·rw [if_neg (by simpa using hv), decide_eq_false hv]; rfl
   ·rw [if_neg h4, if_neg h4, beq_dec]
    by_cases hv : v = 0
    ·rw [if_pos hv, decide_eq_true hv]; rfl
    ·rw [if_neg hv, decide_eq_false hv]; rfl
 have ht : impl_CommandValid.j1L true k s v o = some false := by rw [impl_CommandValid.j1L_eq, if_pos rfl]
 rw [impl_CommandValid.fL_eq, impl_CommandValid.j0L_eq, impl_CommandValid.j0L_eq, impl_KeyValid_f, Option.bind_some, hj, ht, bne_dec]
 unfold cmdOk
 by_cases h1 : k < 1
 ·rw [if_pos h1, if_pos rfl, decide_eq_false (p := 1 ≤ k ∧ k ≤ 5) (by omega)]; rfl
 ·rw [if_neg h1]
  by_cases h5 : k > 5
  ·rw [if_pos (by simpa using h5), decide_eq_false (p := 1 ≤ k ∧ k ≤ 5) (by omega)]; rfl
  ·rw [if_neg (by simpa using h5), decide_eq_true (p := 1 ≤ k ∧ k ≤ 5) (by omega)]
   cases hk : keyOk (bs s) with
   | true => rw [if_pos rfl]; simp
   | false =>
    rw [if_neg (by simp)]
    by_cases h : k = 5
    ·rw [if_pos h]
     by_cases hs : s.toList = []
     ·rw [decide_eq_true hs, decide_eq_true h, Bool.not_true, hj]; simp
     ·rw [decide_eq_false hs, Bool.not_false, ht]; simp
    ·rw [if_neg h, decide_eq_false h]; simp

/-! #### impl_State -/
theorem impl_IntervalCut_e (lo hi k : ByteArray) : ∃ a b c d, impl_IntervalCut.fL lo hi k = some (a, b, c, d, cutOk lo hi k) := by
 have jt : impl_IntervalCut.j0L k true lo hi = some ((⟨#[]⟩ : ByteArray), (⟨#[]⟩ : ByteArray), (⟨#[]⟩ : ByteArray), (⟨#[]⟩ : ByteArray), false) := by rw [impl_IntervalCut.j0L_eq, if_pos rfl]
 rw [impl_IntervalCut.fL_eq, impl_IntervalValid_f, Option.bind_some, impl_KeyValid_f, Option.bind_some, jt]
 unfold cutOk
 cases ivOk lo hi with
 | false => exact ⟨_, _, _, _, rfl⟩
 | true =>
  rw [if_pos rfl]
  cases keyOk (bs k) with
  | false => rw [Bool.not_false, jt]; exact ⟨_, _, _, _, rfl⟩
  | true =>
   rw [Bool.not_true, impl_IntervalCut.j0L_eq, if_neg (by simp), impl_IntervalValid_f, Option.bind_some, impl_IntervalValid_f, Option.bind_some]
   cases ivOk lo k with
   | false => exact ⟨_, _, _, _, rfl⟩
   | true =>
    cases ivOk k hi with
    | false => exact ⟨_, _, _, _, rfl⟩
    | true => exact ⟨_, _, _, _, rfl⟩
theorem impl_StateValid_l0 (lo hi : ByteArray) (xs : List S181) (ys : List S217) (g : Bool) (s : ByteArray) (hx : xs.length ≤ 2000000) : ∀ (zs : List S181) (i : Int), 0 ≤ i → i ≤ xs.length → xs.drop i.toNat = zs → impl_StateValid.l0L xs (xs.length : Int) i lo hi xs ys g s = some (zs.all (fun y => inIv lo hi y.f0) && (decide (s.toList = []) || (g && cutOk lo hi s)))
 | [], i, h0, h1, hd => by
  have := drop_nil h0 h1 hd
  obtain ⟨a, b, c, d, hc⟩ := impl_IntervalCut_e lo hi s
  rw [impl_StateValid.l0L_eq, if_neg (by omega), hc, Option.bind_some]
  by_cases e : s.toList = []
  ·rw [if_pos e, decide_eq_true e]; rfl
  ·rw [if_neg e, decide_eq_false e]
   cases g with
   | true => rfl
   | false => rfl
 | z :: zs, i, h0, h1, hd => by
  obtain ⟨hr0, hl, hd'⟩ := getD_cons (d := z181) h0 hd
  have hr : rd_T181 xs i = z := hr0
  rw [impl_StateValid.l0L_eq, if_pos hl, if_pos h0, if_pos hl, hr, impl_inside_f, Option.bind_some, w64 (by omega) (by omega), impl_StateValid_l0 lo hi xs ys g s hx zs (i + 1) (by omega) (by omega) hd', List.all_cons]
  cases inIv lo hi z.f0 with
  | true => rw [if_pos rfl, Bool.true_and]
  | false => rw [if_neg (by simp)]; rfl
theorem impl_StateValid_f (lo hi : ByteArray) (xs : List S181) (ys : List S217) (g : Bool) (s : ByteArray) (hy : ys.length ≤ 2000000) : impl_StateValid.fL lo hi xs ys g s = some (stateOk lo hi xs ys g s) := by
 have jt : impl_StateValid.j0L true lo hi xs ys g s = some false := by rw [impl_StateValid.j0L_eq, if_pos rfl]
 rw [impl_StateValid.fL_eq, impl_IntervalValid_f, Option.bind_some, impl_PairsValid_f, Option.bind_some, impl_SessionsValid_f ys (by omega), Option.bind_some, jt]
 unfold stateOk
 cases ivOk lo hi with
 | false => rfl
 | true =>
  rw [if_pos rfl]
  cases hp : pairsOk xs with
  | false => rfl
  | true =>
   have := pairsOk_le hp
   rw [if_pos rfl]
   cases sessOk ys with
   | false => rw [Bool.not_false, jt]; rfl
   | true => rw [Bool.not_true, impl_StateValid.j0L_eq, if_neg (by simp), impl_StateValid_l0 lo hi xs ys g s (by omega) xs 0 (by omega) (by omega) (by simp)]; rfl
theorem impl_EntryValid_e (c n k : Int) (key : ByteArray) (v o : Int) : impl_EntryValid.fL c n k key v o = some (entOk c n k key v o) := by
 rw [impl_EntryValid.fL_eq, impl_seqValid_e, Option.bind_some, impl_CommandValid_f, Option.bind_some]
 unfold entOk
 by_cases h1 : c ≥ 0
 ·rw [if_pos h1]
  by_cases h2 : c < 4
  ·rw [if_pos h2, decide_eq_true (p := 0 ≤ c ∧ c ≤ 3) (by omega), Bool.true_and]
   cases decide (1 ≤ n ∧ n ≤ 999) <;> simp
  ·rw [if_neg h2, decide_eq_false (p := 0 ≤ c ∧ c ≤ 3) (by omega)]; simp
 ·rw [if_neg h1, decide_eq_false (p := 0 ≤ c ∧ c ≤ 3) (by omega)]; simp
theorem impl_entriesValid_l0 (xs : List S118) (hx : xs.length ≤ 24) : ∀ (ys : List S118) (i : Int), 0 ≤ i → i ≤ xs.length → xs.drop i.toNat = ys → impl_entriesValid.l0L xs (xs.length : Int) i = some (ys.all entE)
 | [], i, h0, h1, hd => by
  have := drop_nil h0 h1 hd
  rw [impl_entriesValid.l0L_eq, if_neg (by omega)]; rfl
 | y :: ys, i, h0, h1, hd => by
  obtain ⟨hr0, hl, hd'⟩ := getD_cons (d := z118) h0 hd
  have hr : rd_T118 xs i = y := hr0
  have he : entE y = entOk y.f0 y.f1 y.f2.f0 y.f2.f1 y.f2.f2 y.f2.f3 := rfl
  rw [impl_entriesValid.l0L_eq, if_pos hl, if_pos h0, if_pos hl, hr, impl_EntryValid_e, Option.bind_some, w64 (by omega) (by omega), impl_entriesValid_l0 xs hx ys (i + 1) (by omega) (by omega) hd', List.all_cons, he]
  cases entOk y.f0 y.f1 y.f2.f0 y.f2.f1 y.f2.f2 y.f2.f3 with
  | true => rw [if_pos rfl, Bool.true_and]
  | false => rw [if_neg (by simp)]; rfl
theorem impl_entriesValid_f (xs : List S118) : impl_entriesValid.fL xs = some (logOk xs) := by
 rw [impl_entriesValid.fL_eq]
 unfold logOk
 by_cases h : (xs.length : Int) > 24
 ·rw [if_pos h, decide_eq_false (by omega)]; rfl
 ·rw [if_neg h, decide_eq_true (by omega), impl_entriesValid_l0 xs (by omega) xs 0 (by omega) (by omega) (by simp)]; rfl
theorem impl_copyState_f (lo hi : ByteArray) (xs : List S181) (ys : List S217) (g : Bool) (s : ByteArray) (hx : xs.length ≤ 2000000) (hy : ys.length ≤ 2000000) : impl_copyState.f lo hi xs ys g s = some (lo, hi, xs, ys, g, s) := by
 unfold impl_copyState.f
 rw [impl_copyOf_f xs (by omega), Option.bind_some, impl_copySess_f ys (by omega), Option.bind_some]
theorem impl_stateTakes_f (lo hi : ByteArray) (xs : List S181) (ys : List S217) (g : Bool) (s : ByteArray) (k : Int) (key : ByteArray) (v o : Int) : impl_stateTakes.fL lo hi xs ys g s k key v o = some (takes lo hi k key) := by
 obtain ⟨a, b, c, d, hc⟩ := impl_IntervalCut_e lo hi key
 rw [impl_stateTakes.fL_eq, hc, Option.bind_some, impl_inside_f, Option.bind_some]
 unfold takes
 by_cases h : k = 5
 ·rw [if_pos h, if_pos h]
  by_cases e : key.toList = []
  ·rw [if_pos e, decide_eq_true e]; rfl
  ·rw [if_neg e, decide_eq_false e]; rfl
 ·rw [if_neg h, if_neg h]
theorem impl_ApplyCommand_f (xs : List S181) (k : Int) (key : ByteArray) (v o : Int) : impl_ApplyCommand.fL xs k key v o = some (applyCmd xs k key v o) := by
 have jt : impl_ApplyCommand.j0L xs true k key v o = some ([], -3) := by rw [impl_ApplyCommand.j0L_eq, if_pos rfl]
 rw [impl_ApplyCommand.fL_eq, impl_PairsValid_f, Option.bind_some, impl_CommandValid_f, Option.bind_some, jt]
 unfold applyCmd
 by_cases h1 : pairsOk xs = true
 ·have h48 := pairsOk_le h1
  rw [if_pos h1]
  by_cases h2 : cmdOk k key v o = true
  ·have hk : 1 ≤ k ∧ k ≤ 5 := by
    have := h2; unfold cmdOk at this; rw [Bool.and_eq_true, Bool.and_eq_true, decide_eq_true_eq] at this; exact this.1.1
   rw [if_pos h2]
   by_cases h3 : k = 5
   ·rw [show (k == 5) = true by rw [h3]; rfl, jt, if_neg (fun q => q.2.2 h3)]
   ·have j1 : impl_ApplyCommand.j1L xs (pairGet xs key) k key v o = some (if pairGet xs key = -1 ∧ 8 ≤ xs.length then (xs, -2) else ((pairPut xs key v).1, pairGet xs key)) := by
     rw [impl_ApplyCommand.j1L_eq, impl_ApplyCommand.j2L_eq, impl_ApplyCommand.j2L_eq, impl_copyOf_f xs (by omega), Option.bind_some, impl_PairPut_f, Option.bind_some]
     by_cases e : pairGet xs key = -1
     ·rw [if_pos e]
      by_cases q : (xs.length : Int) ≥ 8
      ·rw [decide_eq_true q, if_pos rfl, if_pos ⟨e, by omega⟩]
      ·rw [decide_eq_false q, if_neg (by simp), if_neg (fun z => by omega)]
     ·rw [if_neg e, if_neg (by simp), if_neg (fun z => e z.1)]
    rw [show (k == 5) = false by simpa using h3, impl_ApplyCommand.j0L_eq, if_neg (by simp), impl_PairGet_f, Option.bind_some, impl_PairDrop_f, Option.bind_some, impl_copyOf_f xs (by omega), Option.bind_some, j1, if_pos (show pairsOk xs = true ∧ cmdOk k key v o = true ∧ k ≠ 5 from ⟨h1, h2, h3⟩)]
    by_cases c3 : k = 3
    ·rw [if_pos c3, if_pos c3]
    ·rw [if_neg c3, if_neg c3]
     by_cases c1 : k = 1
     ·rw [if_pos c1, if_pos (Or.inl c1)]
     ·rw [if_neg c1]
      by_cases c4 : k = 4
      ·rw [if_pos c4]
       by_cases e : o = pairGet xs key
       ·rw [if_pos e, if_neg (show ¬ (k = 1 ∨ (k = 4 ∧ ¬ o = pairGet xs key)) from fun z => z.elim c1 (fun z => z.2 e))]
       ·rw [if_neg e, if_pos (Or.inr ⟨c4, e⟩)]
      ·rw [if_neg c4, if_neg (show ¬ (k = 1 ∨ (k = 4 ∧ ¬ o = pairGet xs key)) from fun z => z.elim c1 (fun z => c4 z.1))]
  ·rw [if_neg h2, if_neg (fun q => h2 q.2.1)]
 ·rw [if_neg h1, if_neg (fun q => h1 q.1)]
theorem impl_ApplyEntry_f (lo hi : ByteArray) (xs : List S181) (ys : List S217) (g : Bool) (s : ByteArray) (c n k : Int) (key : ByteArray) (v o : Int) (hy : ys.length ≤ 2000000) : impl_ApplyEntry.fL lo hi xs ys g s c n k key v o = some (applyEnt lo hi xs ys g s c n k key v o) := by
 have jt : impl_ApplyEntry.j0L true lo hi xs ys g s c n k key v o = some ((⟨#[]⟩ : ByteArray), (⟨#[]⟩ : ByteArray), [], [], false, (⟨#[]⟩ : ByteArray), -3) := by rw [impl_ApplyEntry.j0L_eq, if_pos rfl]
 rw [impl_ApplyEntry.fL_eq, impl_StateValid_f lo hi xs ys g s hy, Option.bind_some, impl_EntryValid_e, Option.bind_some, jt]
 unfold applyEnt
 by_cases h1 : stateOk lo hi xs ys g s = true
 ·obtain ⟨_, hp, hs⟩ := stateOk_says h1
  have h48 := pairsOk_le hp
  have h4 := sessOk_len hs
  rw [if_pos h1]
  by_cases h2 : entOk c n k key v o = true
  ·rw [if_pos ⟨h1, h2⟩, h2, Bool.not_true, impl_ApplyEntry.j0L_eq, if_neg (by simp), impl_copyState_f lo hi xs ys g s (by omega) (by omega), Option.bind_some, impl_sessionPlace_f ys c hs, Option.bind_some]
   dsimp only
   have j2t : impl_ApplyEntry.j2L true lo hi xs ys g s c n k key v o lo hi xs ys g s = some (lo, hi, xs, ys, g, s, -3) := by rw [impl_ApplyEntry.j2L_eq, if_pos rfl]
   have j2f : impl_ApplyEntry.j2L false lo hi xs ys g s c n k key v o lo hi xs ys g s = some (if k = 5 then (lo, hi, xs, (sessPut ys ⟨c, n, 0⟩).1, true, key, 0) else (lo, hi, (applyCmd xs k key v o).1, (sessPut ys ⟨c, n, (applyCmd xs k key v o).2⟩).1, g, s, (applyCmd xs k key v o).2)) := by
    rw [impl_ApplyEntry.j2L_eq, if_neg (by simp), impl_SessionPut_f ys _ _ _ (by omega), Option.bind_some, impl_ApplyCommand_f, Option.bind_some, impl_SessionPut_f ys _ _ _ (by omega), Option.bind_some]
    by_cases e : k = 5
    ·rw [if_pos e, if_pos e]
    ·rw [if_neg e, if_neg e]
   have j1f : ∀ z : Int, impl_ApplyEntry.j1L z false lo hi xs ys g s c n k key v o lo hi xs ys g s = some (if g = true ∨ takes lo hi k key = false then (lo, hi, xs, ys, g, s, -3) else if k = 5 then (lo, hi, xs, (sessPut ys ⟨c, n, 0⟩).1, true, key, 0) else (lo, hi, (applyCmd xs k key v o).1, (sessPut ys ⟨c, n, (applyCmd xs k key v o).2⟩).1, g, s, (applyCmd xs k key v o).2)) := by
    intro z
    rw [impl_ApplyEntry.j1L_eq, if_neg (by simp), impl_stateTakes_f, Option.bind_some, j2t]
    by_cases e : g = true
    ·rw [if_pos e, if_pos (Or.inl e)]
    ·rw [if_neg e]
     cases ht : takes lo hi k key with
     | false => rw [Bool.not_false, j2t, if_pos (Or.inr rfl)]
     | true => rw [Bool.not_true, j2f, if_neg (show ¬ (g = true ∨ true = false) from fun q => q.elim e (fun q => by cases q))]
   by_cases hh : shit c ys = true
   ·have hlt : splace c ys < ys.length := (of_decide_eq_true hh).1
    have hso : sessOf ys c = rd_T217 ys (splace c ys : Int) := by unfold sessOf; rw [if_pos hh]
    rw [if_pos hh, if_pos (by omega), if_pos (by omega), ← hso]
    by_cases q : n ≤ (sessOf ys c).f1
    ·rw [decide_eq_true q, impl_ApplyEntry.j1L_eq, if_pos rfl, if_pos (by omega), if_pos (by omega), ← hso]
     by_cases r : n = (sessOf ys c).f1
     ·rw [if_pos r, if_pos (show shit c ys = true ∧ n ≤ (sessOf ys c).f1 from ⟨hh, q⟩), if_pos r]
     ·rw [if_neg r, if_pos (show shit c ys = true ∧ n ≤ (sessOf ys c).f1 from ⟨hh, q⟩), if_neg r]
    ·rw [decide_eq_false q, j1f, if_neg (show ¬ (shit c ys = true ∧ n ≤ (sessOf ys c).f1) from fun z => q z.2)]
   ·rw [if_neg hh, j1f, if_neg (show ¬ (shit c ys = true ∧ n ≤ (sessOf ys c).f1) from fun z => hh z.1)]
  ·rw [if_neg (fun q => h2 q.2), Bool.eq_false_iff.2 h2, Bool.not_false, jt]
 ·rw [if_neg h1, if_neg (fun q => h1 q.1)]
theorem impl_ChangesOf_l0 (es : List S118) (he : es.length ≤ 24) : ∀ (zs : List S118) (i : Int) (out : List S106) (lo hi : ByteArray) (xs : List S181) (ys : List S217) (g : Bool) (s : ByteArray), ys.length ≤ 5 → 0 ≤ i → i ≤ es.length → (out.length : Int) ≤ i → es.drop i.toNat = zs →
  impl_ChangesOf.l0L out es (es.length : Int) i lo hi xs ys g s = some (out ++ changesFrom lo hi xs ys g s i zs)
 | [], i, out, lo, hi, xs, ys, g, s, hy, h0, h1, ho, hd => by
  have := drop_nil h0 h1 hd
  rw [impl_ChangesOf.l0L_eq, if_neg (by omega)]; simp [changesFrom]
 | z :: zs, i, out, lo, hi, xs, ys, g, s, hy, h0, h1, ho, hd => by
  obtain ⟨hr0, hl, hd'⟩ := getD_cons (d := z118) h0 hd
  have hr : rd_T118 es i = z := hr0
  have ha : impl_ApplyEntry.fL lo hi xs ys g s z.f0 z.f1 z.f2.f0 z.f2.f1 z.f2.f2 z.f2.f3 = some (applyE lo hi xs ys g s z) := impl_ApplyEntry_f lo hi xs ys g s _ _ _ _ _ _ (by omega)
  have hlen : (applyE lo hi xs ys g s z).2.2.2.1.length ≤ 5 := (applyEnt_length lo hi xs ys g s _ _ _ _ _ _).2
  rw [impl_ChangesOf.l0L_eq, if_pos hl, if_pos h0, if_pos hl, hr, impl_PairGet_f, Option.bind_some, ha, Option.bind_some, impl_PairGet_f, Option.bind_some, w64 (by omega) (by omega)]
  simp only [changesFrom]
  by_cases e : pairGet xs z.f2.f1 = pairGet (applyE lo hi xs ys g s z).2.2.1 z.f2.f1
  ·rw [if_pos e, if_pos e, impl_ChangesOf_l0 es he zs (i + 1) out _ _ _ _ _ _ hlen (by omega) (by omega) (by omega) hd', List.nil_append]
  ·rw [if_neg e, if_neg e, if_pos (by omega), impl_ChangesOf_l0 es he zs (i + 1) _ _ _ _ _ _ _ hlen (by omega) (by omega) (by simp; omega) hd', List.append_assoc]
theorem impl_ChangesOf_f (lo hi : ByteArray) (xs : List S181) (ys : List S217) (g : Bool) (s : ByteArray) (es : List S118) (hy : ys.length ≤ 2000000) : impl_ChangesOf.fL lo hi xs ys g s es = some (changesOf lo hi xs ys g s es) := by
 have jt : impl_ChangesOf.j0L es true lo hi xs ys g s = some [] := by rw [impl_ChangesOf.j0L_eq, if_pos rfl]
 rw [impl_ChangesOf.fL_eq, impl_StateValid_f lo hi xs ys g s hy, Option.bind_some, impl_entriesValid_f, Option.bind_some, jt]
 unfold changesOf
 by_cases h1 : stateOk lo hi xs ys g s = true
 ·obtain ⟨_, hp, hs⟩ := stateOk_says h1
  have h48 := pairsOk_le hp
  have h4 := sessOk_len hs
  rw [if_pos h1]
  by_cases h2 : logOk es = true
  ·have hl : es.length ≤ 24 := by have := h2; unfold logOk at this; rw [Bool.and_eq_true, decide_eq_true_eq] at this; exact this.1
   rw [if_pos ⟨h1, h2⟩, h2, Bool.not_true, impl_ChangesOf.j0L_eq, if_neg (by simp), impl_copyState_f lo hi xs ys g s (by omega) (by omega), Option.bind_some]
   dsimp only
   rw [impl_ChangesOf_l0 es hl es 0 [] lo hi xs ys g s (by omega) (by omega) (by omega) (by simp) (by simp), List.nil_append]
  ·rw [if_neg (fun q => h2 q.2), Bool.eq_false_iff.2 h2, Bool.not_false, jt]
 ·rw [if_neg h1, if_neg (fun q => h1 q.1)]

/-! #### spec_sess -/
theorem spec_SessionsValid_lf (xs : List S217) (hx : xs.length ≤ 1000000000000) : ∀ (ys : List S217) (i p : Int), 0 ≤ i → i ≤ xs.length → xs.drop i.toNat = ys → (i = 0 → p = -1) → (0 < i → p = (rd_T217 xs (i - 1)).f0) → spec_SessionsValid.l0L xs i = some (sessFrom p ys)
 | [], i, p, h0, h1, hd, hp0, hp1 => by
  have := drop_nil h0 h1 hd
  rw [spec_SessionsValid.l0L_eq, if_neg (by omega)]; rfl
 | y :: ys, i, p, h0, h1, hd, hp0, hp1 => by
  obtain ⟨hr0, hl, hd'⟩ := getD_cons (d := z217) h0 hd
  have hr : rd_T217 xs i = y := hr0
  have ih := spec_SessionsValid_lf xs hx ys (i + 1) y.f0 (by omega) (by omega) hd' (fun h => by omega) (fun _ => by rw [show i + 1 - 1 = i by omega, hr])
  rw [spec_SessionsValid.l0L_eq, if_pos hl, if_pos h0, hr, w64 (n := i + 1) (by omega) (by omega), w64 (n := i - 1) (by omega) (by omega), ih]
  simp only [spec_l1In_f, Option.bind_some, sessFrom, sessItem]
  by_cases c1 : 0 ≤ y.f0 ∧ y.f0 ≤ 3
  ·rw [decide_eq_true c1, if_pos rfl]
   by_cases c2 : 1 ≤ y.f1 ∧ y.f1 ≤ 999
   ·rw [decide_eq_true c2, if_pos rfl]
    by_cases c3 : -2 ≤ y.f2 ∧ y.f2 ≤ 999
    ·rw [decide_eq_true c3, if_pos rfl]
     by_cases hi : i > 0
     ·rw [if_pos hi, if_pos (by omega), if_pos (by omega), ← hp1 hi]
      by_cases e : y.f0 ≤ p
      ·rw [if_pos e, decide_eq_false (p := p < y.f0) (by omega)]; rfl
      ·rw [if_neg e, decide_eq_true (p := p < y.f0) (by omega)]; rfl
     ·rw [if_neg hi, hp0 (by omega), decide_eq_true (p := -1 < y.f0) (by omega)]; rfl
    ·rw [decide_eq_false c3, if_neg (by simp)]; simp
   ·rw [decide_eq_false c2, if_neg (by simp)]; simp
  ·rw [decide_eq_false c1, if_neg (by simp)]; simp
theorem spec_SessionsValid_f (xs : List S217) (hx : xs.length ≤ 1000000000000) : spec_SessionsValid.fL xs = some (sessOk xs) := by
 rw [spec_SessionsValid.fL_eq, spec_SessionsValid_lf xs hx xs 0 (-1) (by omega) (by omega) (by simp) (fun _ => rfl) (fun h => by omega)]; rfl
def sfind (c : Int) : List S217 → S217
 | [] => ⟨0, 0, 0⟩
 | y :: ys => if y.f0 = c then y else sfind c ys
theorem spec_l9Find_lf (xs : List S217) (c : Int) (hx : xs.length ≤ 1000000000000) : ∀ (ys : List S217) (i : Int), 0 ≤ i → i ≤ xs.length → xs.drop i.toNat = ys → spec_l9Find.l0L xs c i = some ((sfind c ys).f0, (sfind c ys).f1, (sfind c ys).f2)
 | [], i, h0, h1, hd => by
  have := drop_nil h0 h1 hd
  rw [spec_l9Find.l0L_eq, if_neg (by omega)]; rfl
 | y :: ys, i, h0, h1, hd => by
  obtain ⟨hr0, hl, hd'⟩ := getD_cons (d := z217) h0 hd
  have hr : rd_T217 xs i = y := hr0
  rw [spec_l9Find.l0L_eq, if_pos hl, if_pos h0, hr, w64 (n := i + 1) (by omega) (by omega), spec_l9Find_lf xs c hx ys (i + 1) (by omega) (by omega) hd']
  simp only [sfind]
  by_cases e : y.f0 = c
  ·rw [if_pos e, if_pos e]
  ·rw [if_neg e, if_neg e]
theorem sfind_skip (c : Int) (B : List S217) : ∀ A : List S217, (∀ y ∈ A, y.f0 < c) → sfind c (A ++ B) = sfind c B
 | [], _ => rfl
 | x :: A, h => by
  have := h x List.mem_cons_self
  simp only [List.cons_append, sfind]
  rw [if_neg (by omega)]; exact sfind_skip c B A (fun y hy => h y (List.mem_cons_of_mem _ hy))
theorem sfind_none (c : Int) : ∀ B : List S217, (∀ y ∈ B, c < y.f0) → sfind c B = ⟨0, 0, 0⟩
 | [], _ => rfl
 | x :: B, h => by
  have := h x List.mem_cons_self
  simp only [sfind]
  rw [if_neg (by omega)]; exact sfind_none c B (fun y hy => h y (List.mem_cons_of_mem _ hy))
theorem sfind_is (c : Int) (l : List S217) (h : sessOk l = true) : sfind c l = sessOf l c := by
 unfold sessOf
 rcases sess_split c l ((sessOk_iff l).1 h).2 with ⟨A, B, y, rfl, h0, h1, h2⟩ | ⟨A, B, rfl, h1, h2⟩
 ·obtain ⟨hp, hs⟩ := shit_app h0 h1 h2
  rw [if_pos hs, hp, srd_app, sfind_skip c _ A h1]
  simp only [sfind]; rw [if_pos h0]
 ·obtain ⟨hp, hs⟩ := snohit_app h1 h2
  rw [if_neg (by rw [hs]; simp), sfind_skip c _ A h1, sfind_none c B h2]
theorem spec_l9Find_f (xs : List S217) (c : Int) (h : sessOk xs = true) : spec_l9Find.fL xs c = some ((sessOf xs c).f0, (sessOf xs c).f1, (sessOf xs c).f2) := by
 have h4 := sessOk_len h
 rw [spec_l9Find.fL_eq, spec_l9Find_lf xs c (by omega) xs 0 (by omega) (by omega) (by simp), sfind_is c xs h]
/-- What the reference's loop puts together. -/
def sputL (s : S217) : Bool → List S217 → List S217
 | c, [] => if c = true then [] else [s]
 | c, y :: ys => (if c = false ∧ y.f0 ≥ s.f0 then [s] else []) ++ (if y.f0 = s.f0 then [] else [y]) ++ sputL s (c || decide (y.f0 ≥ s.f0)) ys
theorem spec_SessionPut_lf (xs : List S217) (hx : xs.length ≤ 100000) (e f g : Int) : ∀ (ys : List S217) (i : Int) (b : List S217) (c : Bool), 0 ≤ i → i ≤ xs.length → b.length ≤ 2 * i → xs.drop i.toNat = ys → spec_SessionPut.l0L xs b c i e f g = some (b ++ sputL ⟨e, f, g⟩ c ys, true)
 | [], i, b, c, h0, h1, hb, hd => by
  have := drop_nil h0 h1 hd
  rw [spec_SessionPut.l0L_eq, if_neg (by omega)]
  cases c with
  | true => rw [if_pos rfl]; simp [sputL]
  | false => rw [if_neg (by simp), if_pos (by omega)]; simp [sputL]
 | y :: ys, i, b, c, h0, h1, hb, hd => by
  obtain ⟨hr0, hl, hd'⟩ := getD_cons (d := z217) h0 hd
  have hr : rd_T217 xs i = y := hr0
  have ih := fun (b' : List S217) (c' : Bool) (h : b'.length ≤ 2 * (i + 1)) => spec_SessionPut_lf xs hx e f g ys (i + 1) b' c' (by omega) (by omega) h hd'
  have ey : (⟨y.f0, y.f1, y.f2⟩ : S217) = y := rfl
  have j : ∀ q : Bool, spec_SessionPut.j2L xs b c i q e f g = some (b ++ ((if q = true then [⟨e, f, g⟩] else []) ++ (if y.f0 = e then [] else [y]) ++ sputL ⟨e, f, g⟩ (c || q) ys), true) := by
   intro q
   rw [spec_SessionPut.j2L_eq, w64 (n := i + 1) (by omega) (by omega), hr, ey]
   cases q with
   | true =>
    have e1 : (b ++ [(⟨e, f, g⟩ : S217)]).length ≤ 2 * i + 1 := by simp; omega
    rw [if_pos rfl, if_pos (by omega), Option.bind_some, if_pos h0, if_pos hl, if_pos rfl, Bool.or_true]
    by_cases q : y.f0 = e
    ·rw [if_pos q, if_pos q, ih _ _ (by omega)]; simp
    ·rw [if_neg q, if_neg q, if_pos (by omega), ih _ _ (by simp; omega)]; simp
   | false =>
    rw [if_neg Bool.false_ne_true, if_pos h0, if_pos hl, Bool.or_false]
    by_cases q : y.f0 = e
    ·rw [if_pos q, if_pos q, ih _ _ (by omega)]; simp
    ·rw [if_neg q, if_neg q, if_pos (by omega), ih _ _ (by simp; omega)]; simp
  rw [spec_SessionPut.l0L_eq, if_pos hl, hr, j, j]
  simp only [sputL]
  cases c with
  | true =>
   simp
  | false =>
   rw [if_neg Bool.false_ne_true, if_pos h0]
   by_cases q : y.f0 ≥ e
   ·rw [decide_eq_true q, if_pos rfl, if_pos (show false = false ∧ y.f0 ≥ e from ⟨rfl, q⟩)]
   ·rw [decide_eq_false q, if_neg Bool.false_ne_true, if_neg (show ¬ (false = false ∧ y.f0 ≥ e) from fun k => q k.2)]
theorem sputL_skip (s : S217) (B : List S217) : ∀ A : List S217, (∀ y ∈ A, y.f0 < s.f0) → sputL s false (A ++ B) = A ++ sputL s false B
 | [], _ => rfl
 | x :: A, h => by
  have := h x List.mem_cons_self
  simp only [List.cons_append, sputL]
  rw [if_neg (fun q => by omega), if_neg (by omega), decide_eq_false (by omega), Bool.or_false, sputL_skip s B A (fun y hy => h y (List.mem_cons_of_mem _ hy))]; rfl
theorem sputL_rest (s : S217) : ∀ B : List S217, (∀ y ∈ B, s.f0 < y.f0) → sputL s true B = B
 | [], _ => rfl
 | x :: B, h => by
  have := h x List.mem_cons_self
  simp only [sputL]
  rw [if_neg (fun q => by cases q.1), if_neg (by omega), Bool.true_or, sputL_rest s B (fun y hy => h y (List.mem_cons_of_mem _ hy))]; rfl
theorem spec_SessionPut_f (xs : List S217) (a b c : Int) (hx : xs.length ≤ 1000000000000) : spec_SessionPut.fL xs a b c = some (sessPut xs ⟨a, b, c⟩) := by
 have jt : spec_SessionPut.j0L xs [] true a b c = some ([], false) := by rw [spec_SessionPut.j0L_eq, if_pos rfl]
 have one : spec_SessionsValid.fL [(⟨a, b, c⟩ : S217)] = some (sessItem ⟨a, b, c⟩) := by
  rw [spec_SessionsValid_f _ (by simp)]
  congr 1
  cases h : sessItem (⟨a, b, c⟩ : S217) with
  | true => exact (sessOk_iff _).2 ⟨fun y hy => by simp at hy; rw [hy]; exact h, by simp⟩
  | false =>
   cases h2 : sessOk [(⟨a, b, c⟩ : S217)] with
   | false => rfl
   | true => have := ((sessOk_iff _).1 h2).1 ⟨a, b, c⟩ (by simp); rw [h] at this; cases this
 rw [spec_SessionPut.fL_eq, Option.bind_some, spec_SessionsValid_f xs hx, Option.bind_some, one, Option.bind_some]
 unfold sessPut
 by_cases h1 : sessOk xs = true
 ·have h4 := sessOk_len h1
  rw [if_pos h1]
  by_cases h2 : sessItem (⟨a, b, c⟩ : S217) = true
  ·have hi := (sessItem_iff _).1 h2
   have hs : spec_SessionSeq.fL xs a = some (sessOf xs a).f1 := by
    rw [spec_SessionSeq.fL_eq, spec_SessionsValid_f xs hx, Option.bind_some, if_pos h1, spec_l1In_f, Option.bind_some, decide_eq_true hi.1, if_pos rfl, spec_l9Find_f xs a h1, Option.bind_some]
   rw [if_pos ⟨h1, h2⟩, h2, Bool.not_true, spec_SessionPut.j0L_eq, if_neg (by simp), hs, Option.bind_some, spec_SessionPut_lf xs (by omega) a b c xs 0 [] false (by omega) (by omega) (by simp) (by simp), if_pos (show ([] : List S217).length + xs.length < 5864062014805 by simp; omega), List.nil_append, List.nil_append]
   dsimp only
   unfold sessOf
   rcases sess_split a xs ((sessOk_iff xs).1 h1).2 with ⟨A, B, y, rfl, k0, k1, k2⟩ | ⟨A, B, rfl, k1, k2⟩
   ·obtain ⟨hp, hs⟩ := shit_app k0 k1 k2
    rw [if_pos hs, if_pos hs, hp, srd_app, sputL_skip _ _ A k1]
    by_cases q : y.f1 ≥ b
    ·rw [if_pos q, if_pos q]
    ·rw [if_neg q, if_neg q]
     rw [show sputL (⟨a, b, c⟩ : S217) false (y :: B) = (if false = false ∧ y.f0 ≥ a then [(⟨a, b, c⟩ : S217)] else []) ++ (if y.f0 = a then [] else [y]) ++ sputL ⟨a, b, c⟩ (false || decide (y.f0 ≥ a)) B from rfl]
     rw [if_pos (show false = false ∧ y.f0 ≥ a from ⟨rfl, by omega⟩), if_pos (show y.f0 = a from k0), decide_eq_true (show y.f0 ≥ a by omega), Bool.or_true, sputL_rest _ B k2]
     simp
   ·obtain ⟨hp, hs⟩ := snohit_app k1 k2
    have h0 : ¬ ((⟨0, 0, 0⟩ : S217).f1 ≥ b) := by have h5 : 1 ≤ b := hi.2.1.1; show ¬ ((0 : Int) ≥ b); omega
    rw [if_neg (show ¬ (shit a (A ++ B) = true) by rw [hs]; simp), if_neg (show ¬ (shit a (A ++ B) = true) by rw [hs]; simp), hp, if_neg h0, sputL_skip _ _ A k1]
    cases B with
    | nil => simp [sputL]
    | cons y B =>
     have hy := k2 y List.mem_cons_self
     rw [show sputL (⟨a, b, c⟩ : S217) false (y :: B) = (if false = false ∧ y.f0 ≥ a then [(⟨a, b, c⟩ : S217)] else []) ++ (if y.f0 = a then [] else [y]) ++ sputL ⟨a, b, c⟩ (false || decide (y.f0 ≥ a)) B from rfl]
     rw [if_pos (show false = false ∧ y.f0 ≥ a from ⟨rfl, by omega⟩), if_neg (show ¬ y.f0 = a by omega), decide_eq_true (show y.f0 ≥ a by omega), Bool.or_true, sputL_rest _ B (fun z hz => k2 z (List.mem_cons_of_mem _ hz))]
     simp
  ·rw [if_neg (fun q => h2 q.2), Bool.eq_false_iff.2 h2, Bool.not_false, jt]
 ·rw [if_neg h1, jt, if_neg (fun q => h1 q.1)]

/-! #### spec_Interval -/
theorem less_a (hi : ByteArray) (h : keyOk (bs hi) = true) : (Op.bytesLess [] hi.toList && (hi.toList != [97])) = Op.bytesLess [97] hi.toList := by
 have hl : letters (bs hi) = true := keyOk_letters h
 have hn := (keyOk_len h).1
 have hb : bs hi = hi.toList.map fun b => (b.toNat : Int) := by rw [toList_data]; rfl
 rw [hb] at hl hn
 cases e : hi.toList with
 | nil => rw [e] at hn; simp at hn
 | cons b l =>
  rw [e] at hl
  obtain ⟨h1, _⟩ := letters_cons hl
  have h1 : 97 ≤ (b.toNat : Int) ∧ (b.toNat : Int) ≤ 122 := h1
  simp only [Op.bytesLess]
  by_cases hb97 : b = 97
  ·subst hb97
   cases l with
   | nil => simp [Op.bytesLess]
   | cons c l => simp [Op.bytesLess]
  ·have hlt : (97 : UInt8) < b := by
    rw [UInt8.lt_iff_toNat_lt]
    have : b.toNat ≠ (97 : UInt8).toNat := fun e => hb97 (UInt8.toNat_inj.1 e)
    have e97 : (97 : UInt8).toNat = 97 := rfl
    omega
   simp [hlt, hb97]
theorem spec_IntervalValid_f (lo hi : ByteArray) : spec_IntervalValid.fL lo hi = some (ivOk lo hi) := by
 rw [spec_IntervalValid.fL_eq, spec_KeyValid_f, spec_KeyValid_f]
 simp only [Option.bind_some]
 unfold ivOk low
 by_cases h1 : lo.toList = []
 ·rw [if_pos h1, if_pos h1, decide_eq_true h1]
  by_cases h2 : hi.toList = []
  ·rw [if_pos h2, decide_eq_true h2]; rfl
  ·rw [if_neg h2, decide_eq_false h2]
   cases hk : keyOk (bs hi) with
   | false => simp
   | true =>
    have e97 : (⟨#[97]⟩ : ByteArray).toList = [97] := by rw [toList_data]
    rw [h1, e97, ← less_a hi hk]
    cases Op.bytesLess [] hi.toList <;> simp
 ·rw [if_neg h1, if_neg h1, decide_eq_false h1]
  by_cases h2 : hi.toList = []
  ·rw [if_pos h2, decide_eq_true h2]
   cases keyOk (bs lo) <;> simp
  ·rw [if_neg h2, decide_eq_false h2]
   cases keyOk (bs lo) <;> cases keyOk (bs hi) <;> cases Op.bytesLess lo.toList hi.toList <;> simp

/-! #### pairins -/
/-- All keys of a list are less than k; all are greater. -/
def allLt (A : List S181) (k : ByteArray) : Prop := ∀ y ∈ A, klt y.f0 k = true
def allGt (B : List S181) (k : ByteArray) : Prop := ∀ y ∈ B, klt k y.f0 = true
theorem klt_asym {a b : ByteArray} (h : klt a b = true) : klt b a = false := by
 cases e : klt b a with
 | false => rfl
 | true => have := klt_trans h e; rw [klt_irrefl] at this; cases this
theorem pairsFrom_iff : ∀ (l : List S181) (p : Option ByteArray), pairsFrom p l = true ↔ (∀ y ∈ l, pairItem y = true ∧ above p y.f0 = true) ∧ l.Pairwise (fun a b => klt a.f0 b.f0 = true)
 | [], p => by simp [pairsFrom]
 | x :: l, p => by
  have ih := pairsFrom_iff l (some x.f0)
  rw [pairsFrom, Bool.and_eq_true, Bool.and_eq_true, ih, List.pairwise_cons]
  constructor
  ·rintro ⟨⟨h1, h2⟩, h3, h4⟩
   refine ⟨fun y hy => ?_, fun y hy => (h3 y hy).2, h4⟩
   rcases List.mem_cons.1 hy with rfl | hy
   ·exact ⟨h1, h2⟩
   ·refine ⟨(h3 y hy).1, ?_⟩
    cases p with
    | none => rfl
    | some q => exact klt_trans h2 (h3 y hy).2
  ·rintro ⟨h1, h2, h3⟩
   have hx := h1 x List.mem_cons_self
   exact ⟨⟨hx.1, hx.2⟩, fun y hy => ⟨(h1 y (List.mem_cons_of_mem _ hy)).1, h2 y hy⟩, h3⟩
theorem pairsOk_iff (l : List S181) : pairsOk l = true ↔ l.length ≤ 48 ∧ (∀ y ∈ l, pairItem y = true) ∧ l.Pairwise (fun a b => klt a.f0 b.f0 = true) := by
 unfold pairsOk
 rw [Bool.and_eq_true, decide_eq_true_eq, pairsFrom_iff]
 constructor
 ·rintro ⟨h1, h2, h3⟩; exact ⟨h1, fun y hy => (h2 y hy).1, h3⟩
 ·rintro ⟨h1, h2, h3⟩; exact ⟨h1, fun y hy => ⟨h2 y hy, rfl⟩, h3⟩
theorem place_app {k : ByteArray} {B : List S181} (h2 : ∀ y ∈ B, klt y.f0 k = false) : ∀ {A : List S181}, allLt A k → place k (A ++ B) = A.length
 | [], _ => by
  cases B with
  | nil => rfl
  | cons y B => simp only [List.nil_append, place]; rw [if_neg (by rw [h2 y List.mem_cons_self]; simp)]; rfl
 | x :: A, h1 => by
  simp only [List.cons_append, place]
  rw [if_pos (h1 x List.mem_cons_self), place_app h2 (fun y hy => h1 y (List.mem_cons_of_mem _ hy))]; rfl
theorem place_hit {A B : List S181} {k : ByteArray} {v : Int} (h1 : allLt A k) (h2 : allGt B k) : place k (A ++ ⟨k, v⟩ :: B) = A.length :=
 place_app (fun y hy => by
  rcases List.mem_cons.1 hy with rfl | hy
  ·exact klt_irrefl _
  ·exact klt_asym (h2 y hy)) h1
theorem place_no {A B : List S181} {k : ByteArray} (h1 : allLt A k) (h2 : allGt B k) : place k (A ++ B) = A.length := place_app (fun y hy => klt_asym (h2 y hy)) h1
theorem rd_app (A B : List S181) (y : S181) : rd_T181 (A ++ y :: B) (A.length : Int) = y := by
 unfold rd_T181
 rw [Int.toNat_natCast, List.getD_eq_getElem?_getD, List.getElem?_append_right (Nat.le_refl _)]; simp
theorem hit_app {A B : List S181} {k : ByteArray} {v : Int} (h1 : allLt A k) (h2 : allGt B k) : hit k (A ++ ⟨k, v⟩ :: B) = true := by
 unfold hit; rw [place_hit h1 h2, rd_app]; simp
theorem nohit_app {A B : List S181} {k : ByteArray} (h1 : allLt A k) (h2 : allGt B k) : hit k (A ++ B) = false := by
 unfold hit; rw [place_no h1 h2]
 cases B with
 | nil => simp
 | cons y B =>
  rw [rd_app, decide_eq_false]
  rintro ⟨_, e⟩
  have := h2 y List.mem_cons_self
  rw [e, klt_irrefl] at this; cases this
theorem pairs_split (k : ByteArray) : ∀ l : List S181, l.Pairwise (fun a b => klt a.f0 b.f0 = true) → (∃ A B v, l = A ++ ⟨k, v⟩ :: B ∧ allLt A k ∧ allGt B k) ∨ (∃ A B, l = A ++ B ∧ allLt A k ∧ allGt B k)
 | [], _ => .inr ⟨[], [], rfl, (fun y hy => by cases hy), (fun y hy => by cases hy)⟩
 | x :: l, h => by
  rw [List.pairwise_cons] at h
  by_cases e : klt x.f0 k = true
  ·have hA : ∀ A : List S181, allLt A k → allLt (x :: A) k := fun A hA y hy => by
    rcases List.mem_cons.1 hy with rfl | hy
    ·exact e
    ·exact hA y hy
   rcases pairs_split k l h.2 with ⟨A, B, v, rfl, h1, h2⟩ | ⟨A, B, rfl, h1, h2⟩
   ·exact .inl ⟨x :: A, B, v, rfl, hA A h1, h2⟩
   ·exact .inr ⟨x :: A, B, rfl, hA A h1, h2⟩
  ·by_cases e2 : klt k x.f0 = true
   ·refine .inr ⟨[], x :: l, rfl, (fun y hy => by cases hy), fun y hy => ?_⟩
    rcases List.mem_cons.1 hy with rfl | hy
    ·exact e2
    ·exact klt_trans e2 (h.1 y hy)
   ·have ek := klt_total (Bool.eq_false_iff.2 e) (Bool.eq_false_iff.2 e2)
    subst ek
    exact .inl ⟨[], l, x.f1, rfl, (fun y hy => by cases hy), h.1⟩
theorem pairGet_hit {A B : List S181} {k : ByteArray} {v : Int} (h : pairsOk (A ++ ⟨k, v⟩ :: B) = true) (h1 : allLt A k) (h2 : allGt B k) : pairGet (A ++ ⟨k, v⟩ :: B) k = v := by
 unfold pairGet; rw [if_pos h, if_pos (hit_app h1 h2), place_hit h1 h2, rd_app]
theorem pairGet_no {A B : List S181} {k : ByteArray} (h1 : allLt A k) (h2 : allGt B k) : pairGet (A ++ B) k = -1 := by
 unfold pairGet
 rw [nohit_app h1 h2]; split <;> simp
theorem pairItem_of {A B : List S181} {k : ByteArray} {v : Int} (h : pairsOk (A ++ ⟨k, v⟩ :: B) = true) : keyOk (bs k) = true ∧ 0 ≤ v ∧ v ≤ 999 := by
 have := ((pairsOk_iff _).1 h).2.1 ⟨k, v⟩ (by simp)
 unfold pairItem at this; rw [Bool.and_eq_true, decide_eq_true_eq] at this; exact this
/-! #### spec_pairs -/
theorem spec_PairsValid_l0 (xs : List S181) (hx : xs.length ≤ 48) : ∀ (ys : List S181) (i : Int) (p : Option ByteArray), 0 ≤ i → i ≤ xs.length → xs.drop i.toNat = ys → (i = 0 → p = none) → (0 < i → p = some (rd_T181 xs (i - 1)).f0) → spec_PairsValid.l0L xs i = some (pairsFrom p ys)
 | [], i, p, h0, h1, hd, hp0, hp1 => by
  have := drop_nil h0 h1 hd
  rw [spec_PairsValid.l0L_eq, if_neg (by omega)]; rfl
 | y :: ys, i, p, h0, h1, hd, hp0, hp1 => by
  obtain ⟨hr0, hl, hd'⟩ := getD_cons (d := z181) h0 hd
  have hr : rd_T181 xs i = y := hr0
  have hnext := spec_PairsValid_l0 xs hx ys (i + 1) (some y.f0) (by omega) (by omega) hd' (fun h => by omega) (fun _ => by rw [show i + 1 - 1 = i by omega, hr])
  rw [spec_PairsValid.l0L_eq, if_pos hl, if_pos h0, hr, spec_KeyValid_f, Option.bind_some, spec_l1In_f, Option.bind_some]
  simp only [w64 (n := i - 1) (by omega) (by omega), w64 (n := i + 1) (by omega) (by omega), pairsFrom, pairItem]
  cases hk : keyOk (bs y.f0) with
  | false => simp
  | true =>
   by_cases hv : 0 ≤ y.f1 ∧ y.f1 ≤ 999
   ·rw [decide_eq_true hv]
    by_cases hi : i > 0
    ·rw [if_pos rfl, if_pos rfl, if_pos hi, if_pos (by omega), if_pos (by omega), hp1 hi, hnext]
     simp only [above, klt]
     cases Op.bytesLess (rd_T181 xs (i - 1)).f0.toList y.f0.toList <;> simp
    ·rw [if_pos rfl, if_pos rfl, if_neg hi, hp0 (by omega), hnext]
     simp [above]
   ·rw [decide_eq_false hv]; simp
theorem spec_PairsValid_f (xs : List S181) : spec_PairsValid.fL xs = some (pairsOk xs) := by
 rw [spec_PairsValid.fL_eq]
 unfold pairsOk
 by_cases h : (xs.length : Int) > 48
 ·rw [if_pos h, decide_eq_false (by omega)]; rfl
 ·rw [if_neg h, decide_eq_true (by omega), spec_PairsValid_l0 xs (by omega) xs 0 none (by omega) (by omega) (by simp) (fun _ => rfl) (fun h => by omega)]; rfl

/-! #### spec_pairmap -/
theorem spec_l4Place_l0 (xs : List S181) (k : ByteArray) (hx : xs.length ≤ 1000000000000) : ∀ (ys : List S181) (i : Int), 0 ≤ i → i ≤ xs.length → xs.drop i.toNat = ys → spec_l4Place.l0L xs k i = some (i + (place k ys : Int))
 | [], i, h0, h1, hd => by
  have := drop_nil h0 h1 hd
  rw [spec_l4Place.l0L_eq, if_neg (by omega)]; simp [place]
 | y :: ys, i, h0, h1, hd => by
  obtain ⟨hr0, hl, hd'⟩ := getD_cons (d := z181) h0 hd
  have hr : rd_T181 xs i = y := hr0
  rw [spec_l4Place.l0L_eq, if_pos hl, if_pos h0, hr]
  by_cases h : klt y.f0 k = true
  ·rw [if_pos (show Op.bytesLess y.f0.toList k.toList = true from h), w64 (by omega) (by omega), spec_l4Place_l0 xs k hx ys (i + 1) (by omega) (by omega) hd']
   simp only [place, if_pos h]
   congr 1; omega
  ·rw [if_neg (show ¬ Op.bytesLess y.f0.toList k.toList = true from h)]
   simp only [place, if_neg h]
   congr 1; omega
theorem spec_l4Place_f (xs : List S181) (k : ByteArray) (hx : xs.length ≤ 1000000000000) : spec_l4Place.fL xs k = some (place k xs : Int) := by
 rw [spec_l4Place.fL_eq, spec_l4Place_l0 xs k hx xs 0 (by omega) (by omega) (by simp)]
 congr 1; omega

/-! #### spec_PairGet -/
theorem spec_PairGet_f (xs : List S181) (k : ByteArray) (hx : xs.length ≤ 1000000000000) : spec_PairGet.fL xs k = some (pairGet xs k) := by
 have hp := place_le k xs
 rw [spec_PairGet.fL_eq, spec_l4Place_f xs k hx, Option.bind_some, spec_PairsValid_f, Option.bind_some]
 unfold pairGet
 by_cases h1 : pairsOk xs = true
 ·rw [if_pos h1, if_pos h1]
  by_cases e : (place k xs : Int) = (xs.length : Int)
  ·have : ¬ hit k xs = true := fun h => by have := hit_lt h; omega
   rw [if_pos e, if_neg this]
  ·rw [if_neg e, if_pos (by omega), if_pos (by omega)]
   by_cases e2 : (rd_T181 xs (place k xs : Int)).f0 = k
   ·have hh : hit k xs = true := decide_eq_true ⟨by omega, e2⟩
    rw [if_pos (by rw [e2]), if_pos hh]
   ·have hh : ¬ hit k xs = true := fun h => e2 (hit_key h)
    rw [if_neg (fun h => e2 (toList_eq.1 h)), if_neg hh]
 ·rw [if_neg h1, if_neg h1]

/-! #### spec_PairPut -/
theorem spec_PairPut_f (xs : List S181) (k : ByteArray) (v : Int) (hx : xs.length ≤ 1000000000000) : spec_PairPut.fL xs k v = some (pairPut xs k v) := by
 have hj : ∀ y : List S181, spec_PairPut.j0L xs k v y true = some (y, false) := fun y => by rw [spec_PairPut.j0L_eq, if_pos rfl]
 rw [spec_PairPut.fL_eq, Option.bind_some, spec_PairsValid_f, Option.bind_some]
 unfold pairPut
 by_cases h1 : pairsOk xs = true
 ·rw [if_pos h1, spec_KeyValid_f, Option.bind_some]
  by_cases h2 : keyOk (bs k) = true
  ·rw [if_pos h2, spec_l1In_f, Option.bind_some]
   by_cases h3 : 0 ≤ v ∧ v ≤ 999
   ·have hp := place_le k xs
    rw [if_pos ⟨h1, h2, h3⟩, decide_eq_true h3, Bool.not_true, spec_PairPut.j0L_eq, if_neg (by simp), spec_l4Place_f xs k hx, Option.bind_some]
    have hj1 : ∀ b : Bool, (hit k xs = b) → spec_PairPut.j1L xs k v [] (place k xs : Int) b = some (if hit k xs = true then (xs.take (place k xs) ++ ⟨k, v⟩ :: xs.drop (place k xs + 1), true) else if 48 ≤ xs.length then (xs, false) else (xs.take (place k xs) ++ ⟨k, v⟩ :: xs.drop (place k xs), true)) := by
     intro b hb
     rw [spec_PairPut.j1L_eq, hb]
     cases b with
     | true =>
      have hl := hit_lt hb
      have hk := hit_key hb
      rw [if_pos rfl, if_pos (by simp; omega), Option.bind_some, if_pos (by omega), if_pos (by simp; omega), if_pos rfl]
      rw [List.nil_append, hk, Int.toNat_natCast, set_split _ _ _ hl]
     | false =>
      rw [if_neg (by simp), if_neg (show ¬ (false = true) by simp)]
      by_cases h4 : 48 ≤ xs.length
      ·rw [if_pos (by omega), if_pos (by simp; omega), if_pos h4]; simp
      ·have e1 : (([] : List S181) ++ xs.take (place k xs)).length ≤ 1000000000000 := by simp; omega
       have e2 : (([] : List S181) ++ xs.take (place k xs) ++ [(⟨k, v⟩ : S181)]).length ≤ 1000000000000 := by simp; omega
       rw [if_neg (by omega), if_neg h4, if_pos (by omega), if_pos (by omega), Int.toNat_natCast, Option.bind_some, if_pos (by simp; omega), Option.bind_some, if_pos (by omega), Option.bind_some, Option.bind_some, if_pos (by simp; omega)]
       simp
    by_cases e : (place k xs : Int) < (xs.length : Int)
    ·rw [if_pos e, if_pos (by omega)]
     refine hj1 _ ?_
     unfold hit
     by_cases e2 : (rd_T181 xs (place k xs : Int)).f0 = k
     ·rw [decide_eq_true ⟨by omega, e2⟩, e2]; simp
     ·rw [decide_eq_false (fun h => e2 h.2)]
      symm; rw [beq_eq_false_iff_ne]; intro h; exact e2 (toList_eq.1 h)
    ·rw [if_neg e]
     refine hj1 _ ?_
     unfold hit
     rw [decide_eq_false (fun h => e (by omega))]
   ·rw [decide_eq_false h3, Bool.not_false, hj, if_neg (fun h => h3 h.2.2)]
  ·rw [if_neg h2, hj, if_neg (fun h => h2 h.2.1)]
 ·rw [if_neg h1, hj, if_neg (fun h => h1 h.1)]

/-! #### spec_PairDrop -/
theorem spec_PairDrop_f (xs : List S181) (k : ByteArray) (hx : xs.length ≤ 1000000000000) : spec_PairDrop.fL xs k = some (pairDrop xs k) := by
 have hp := place_le k xs
 rw [spec_PairDrop.fL_eq, Option.bind_some, spec_PairsValid_f, Option.bind_some]
 unfold pairDrop
 by_cases h1 : pairsOk xs = true
 ·have h48 := pairsOk_le h1
  rw [if_pos h1, if_pos h1, spec_l4Place_f xs k hx, Option.bind_some]
  by_cases e : (place k xs : Int) = (xs.length : Int)
  ·have : ¬ hit k xs = true := fun h => by have := hit_lt h; omega
   rw [if_pos e, if_pos (by simp; omega), if_neg this, List.nil_append]
  ·rw [if_neg e, if_pos (by omega), if_pos (by omega)]
   by_cases e2 : (rd_T181 xs (place k xs : Int)).f0 = k
   ·have hh : hit k xs = true := decide_eq_true ⟨by omega, e2⟩
    rw [if_pos (by rw [e2]), if_pos (by omega), Option.bind_some, if_pos (by simp; omega), Option.bind_some, w64 (by omega) (by omega), if_pos (by omega), if_pos (by omega), Option.bind_some, if_pos (by simp; omega), if_pos hh]
    rw [Int.toNat_natCast, show ((place k xs : Int) + 1).toNat = place k xs + 1 by omega, List.nil_append]
   ·have hh : ¬ hit k xs = true := fun h => e2 (hit_key h)
    rw [if_neg (fun h => e2 (toList_eq.1 h)), if_pos (by simp; omega), if_neg hh, List.nil_append]
 ·rw [if_neg h1, if_neg h1]

/-! #### spec_CommandValid -/
theorem spec_CommandValid_f (k : Int) (s : ByteArray) (v o : Int) : spec_CommandValid.fL k s v o = some (cmdOk k s v o) := by
 have hz : spec_CommandValid.j1L k true k s v o = some (decide (v = 0) && decide (o = 0)) := by
  rw [spec_CommandValid.j1L_eq, if_pos rfl, beq_dec]
  by_cases hv : v = 0
  ·rw [if_pos hv, decide_eq_true hv]; rfl
  ·rw [if_neg hv, decide_eq_false hv]; rfl
 have hn : spec_CommandValid.j1L k false k s v o = some (if k = 2 then decide (0 ≤ v ∧ v ≤ 999) && decide (o = 0) else if k = 4 then decide (0 ≤ v ∧ v ≤ 999) && decide (-1 ≤ o ∧ o ≤ 999) else false) := by
  rw [spec_CommandValid.j1L_eq, if_neg (by simp), spec_l1In_f, Option.bind_some, spec_l1In_f, Option.bind_some]
  by_cases h2 : k = 2
  ·rw [if_pos h2, if_pos h2, beq_dec]
   by_cases hv : 0 ≤ v ∧ v ≤ 999
   ·rw [if_pos (by simpa using hv), decide_eq_true hv]; rfl
   ·rw [if_neg (by simpa using hv), decide_eq_false hv]; rfl
  ·rw [if_neg h2, if_neg h2]
   by_cases h4 : k = 4
   ·rw [if_pos h4, if_pos h4, Option.bind_some]
    by_cases hv : 0 ≤ v ∧ v ≤ 999
    ·rw [if_pos (by simpa using hv), decide_eq_true hv]; rfl
    ·rw [if_neg (by simpa using hv), decide_eq_false hv]; rfl
   ·rw [if_neg h4, if_neg h4]
 have hj : spec_CommandValid.j0L false k s v o = some (decide (1 ≤ k ∧ k ≤ 5) && (if k = 2 then decide (0 ≤ v ∧ v ≤ 999) && decide (o = 0) else if k = 4 then decide (0 ≤ v ∧ v ≤ 999) && decide (-1 ≤ o ∧ o ≤ 999) else decide (v = 0) && decide (o = 0))) := by
  rw [spec_CommandValid.j0L_eq, if_neg (by simp), beq_dec, beq_dec, beq_dec]
  by_cases h1 : k = 1
  ·rw [if_pos h1, decide_eq_true h1, hz, decide_eq_true (p := 1 ≤ k ∧ k ≤ 5) (by omega), if_neg (by omega), if_neg (by omega)]; rfl
  ·rw [if_neg h1]
   by_cases h3 : k = 3
   ·rw [if_pos h3, decide_eq_true h3, hz, decide_eq_true (p := 1 ≤ k ∧ k ≤ 5) (by omega), if_neg (by omega), if_neg (by omega)]; rfl
   ·rw [if_neg h3]
    by_cases h5 : k = 5
    ·rw [decide_eq_true h5, hz, decide_eq_true (p := 1 ≤ k ∧ k ≤ 5) (by omega), if_neg (by omega), if_neg (by omega)]; rfl
    ·rw [decide_eq_false h5, hn]
     by_cases h2 : k = 2
     ·rw [decide_eq_true (p := 1 ≤ k ∧ k ≤ 5) (by omega), if_pos h2, if_pos h2]; rfl
     ·by_cases h4 : k = 4
      ·rw [decide_eq_true (p := 1 ≤ k ∧ k ≤ 5) (by omega), if_neg h2, if_neg h2, if_pos h4, if_pos h4]; rfl
      ·rw [decide_eq_false (p := 1 ≤ k ∧ k ≤ 5) (by omega), if_neg h2, if_neg h4]; rfl
 have ht : spec_CommandValid.j0L true k s v o = some false := by rw [spec_CommandValid.j0L_eq, if_pos rfl]
 rw [spec_CommandValid.fL_eq, spec_KeyValid_f, Option.bind_some, hj, ht, bne_dec]
 unfold cmdOk
 cases hk : keyOk (bs s) with
 | true => rw [if_pos rfl]; simp
 | false =>
  rw [if_neg (by simp)]
  by_cases h : k = 5
  ·rw [if_pos h]
   by_cases hs : s.toList = []
   ·rw [decide_eq_true hs, decide_eq_true h, Bool.not_true, hj]; simp
   ·rw [decide_eq_false hs, Bool.not_false, ht]; simp
  ·rw [if_neg h, decide_eq_false h]; simp

/-! #### spec_State -/
theorem inIv_eq (lo hi k : ByteArray) : (if ((Op.bytesLess k.toList lo.toList) = true) then (some false) else (if hi.toList = ([] : List UInt8) then (some true) else (some (Op.bytesLess k.toList hi.toList)))) = some (inIv lo hi k) := by
 unfold inIv klt
 cases Op.bytesLess k.toList lo.toList with
 | true => simp
 | false =>
  rw [if_neg (by simp)]
  by_cases e : hi.toList = []
  ·rw [if_pos e, decide_eq_true e]; rfl
  ·rw [if_neg e, decide_eq_false e]; simp
theorem spec_IntervalHas_e (lo hi k : ByteArray) : spec_IntervalHas.fL lo hi k = some (ivOk lo hi && keyOk (bs k) && inIv lo hi k) := by
 rw [spec_IntervalHas.fL_eq, spec_IntervalValid_f, Option.bind_some, spec_KeyValid_f, Option.bind_some, inIv_eq]
 cases ivOk lo hi with
 | false => rfl
 | true =>
  rw [if_pos rfl]
  cases keyOk (bs k) with
  | false => rfl
  | true => rw [if_pos rfl]; rfl
theorem spec_IntervalCut_e (lo hi k : ByteArray) : ∃ a b c d, spec_IntervalCut.fL lo hi k = some (a, b, c, d, cutOk lo hi k) := by
 rw [spec_IntervalCut.fL_eq, spec_IntervalValid_f, Option.bind_some, spec_KeyValid_f, Option.bind_some, spec_IntervalValid_f, Option.bind_some, spec_IntervalValid_f, Option.bind_some]
 unfold cutOk
 cases ivOk lo hi with
 | false => exact ⟨_, _, _, _, rfl⟩
 | true =>
  cases keyOk (bs k) with
  | false => exact ⟨_, _, _, _, rfl⟩
  | true =>
   cases ivOk lo k with
   | false => exact ⟨_, _, _, _, rfl⟩
   | true =>
    cases ivOk k hi with
    | false => exact ⟨_, _, _, _, rfl⟩
    | true => exact ⟨_, _, _, _, rfl⟩
theorem spec_StateValid_le (lo hi : ByteArray) (xs : List S181) (ys : List S217) (g : Bool) (s : ByteArray) (hx : xs.length ≤ 2000000) (hv : ivOk lo hi = true) (hk : ∀ y ∈ xs, keyOk (bs y.f0) = true) : ∀ (zs : List S181) (i : Int), 0 ≤ i → i ≤ xs.length → xs.drop i.toNat = zs → spec_StateValid.l0L i lo hi xs ys g s = some (zs.all (fun y => inIv lo hi y.f0) && (decide (s.toList = []) || (g && cutOk lo hi s)))
 | [], i, h0, h1, hd => by
  have := drop_nil h0 h1 hd
  obtain ⟨a, b, c, d, hc⟩ := spec_IntervalCut_e lo hi s
  rw [spec_StateValid.l0L_eq, if_neg (by omega), hc, Option.bind_some]
  by_cases e : s.toList = []
  ·rw [if_pos e, decide_eq_true e]; rfl
  ·rw [if_neg e, decide_eq_false e]
   cases g with
   | true => rfl
   | false => rfl
 | z :: zs, i, h0, h1, hd => by
  obtain ⟨hr0, hl, hd'⟩ := getD_cons (d := z181) h0 hd
  have hr : rd_T181 xs i = z := hr0
  have hz : z ∈ xs := List.mem_of_mem_drop (i := i.toNat) (by rw [hd]; exact List.mem_cons_self)
  rw [spec_StateValid.l0L_eq, if_pos hl, if_pos h0, hr, spec_IntervalHas_e, Option.bind_some, w64 (by omega) (by omega), spec_StateValid_le lo hi xs ys g s hx hv hk zs (i + 1) (by omega) (by omega) hd', List.all_cons, hv, hk z hz]
  cases inIv lo hi z.f0 with
  | true => rw [if_pos (show (true && true && true) = true from rfl), Bool.true_and]
  | false => rw [if_neg (by simp)]; rfl
theorem spec_StateValid_f (lo hi : ByteArray) (xs : List S181) (ys : List S217) (g : Bool) (s : ByteArray) (hy : ys.length ≤ 2000000) : spec_StateValid.fL lo hi xs ys g s = some (stateOk lo hi xs ys g s) := by
 have jt : spec_StateValid.j0L true lo hi xs ys g s = some false := by rw [spec_StateValid.j0L_eq, if_pos rfl]
 rw [spec_StateValid.fL_eq, spec_IntervalValid_f, Option.bind_some, spec_PairsValid_f, Option.bind_some, spec_SessionsValid_f ys (by omega), Option.bind_some, jt]
 unfold stateOk
 cases hv : ivOk lo hi with
 | false => rfl
 | true =>
  rw [if_pos rfl]
  cases hp : pairsOk xs with
  | false => rfl
  | true =>
   have := pairsOk_le hp
   have hk : ∀ y ∈ xs, keyOk (bs y.f0) = true := fun y hy => by
    have := ((pairsOk_iff xs).1 hp).2.1 y hy
    unfold pairItem at this; rw [Bool.and_eq_true] at this; exact this.1
   rw [if_pos rfl]
   cases sessOk ys with
   | false => rw [Bool.not_false, jt]; rfl
   | true => rw [Bool.not_true, spec_StateValid.j0L_eq, if_neg (by simp), spec_StateValid_le lo hi xs ys g s (by omega) hv hk xs 0 (by omega) (by omega) (by simp)]; rfl
theorem spec_EntryValid_e (c n k : Int) (key : ByteArray) (v o : Int) : spec_EntryValid.fL c n k key v o = some (entOk c n k key v o) := by
 rw [spec_EntryValid.fL_eq, spec_l1In_f, Option.bind_some, spec_l1In_f, Option.bind_some, spec_CommandValid_f, Option.bind_some]
 unfold entOk
 cases decide (0 ≤ c ∧ c ≤ 3) <;> cases decide (1 ≤ n ∧ n ≤ 999) <;> simp
theorem spec_l10Log_le (xs : List S118) (hx : xs.length ≤ 1000000000000) : ∀ (ys : List S118) (i : Int), 0 ≤ i → i ≤ 24 → i ≤ xs.length → xs.drop i.toNat = ys → spec_l10Log.l0L xs i = some (decide (xs.length ≤ 24) && ys.all entE)
 | [], i, h0, h24, h1, hd => by
  have := drop_nil h0 h1 hd
  rw [spec_l10Log.l0L_eq, if_neg (by omega), decide_eq_true (by omega)]; rfl
 | y :: ys, i, h0, h24, h1, hd => by
  obtain ⟨hr0, hl, hd'⟩ := getD_cons (d := z118) h0 hd
  have hr : rd_T118 xs i = y := hr0
  have he : entE y = entOk y.f0 y.f1 y.f2.f0 y.f2.f1 y.f2.f2 y.f2.f3 := rfl
  rw [spec_l10Log.l0L_eq, if_pos hl]
  by_cases c : i ≥ 24
  ·rw [if_pos c, decide_eq_false (by omega)]; rfl
  ·rw [if_neg c, if_pos h0, hr, spec_EntryValid_e, Option.bind_some, w64 (by omega) (by omega), spec_l10Log_le xs hx ys (i + 1) (by omega) (by omega) (by omega) hd', List.all_cons, he]
   cases entOk y.f0 y.f1 y.f2.f0 y.f2.f1 y.f2.f2 y.f2.f3 with
   | true => rw [if_pos rfl, Bool.true_and]
   | false => rw [if_neg (by simp), Bool.false_and, Bool.and_false]
theorem spec_l10Log_f (xs : List S118) (hx : xs.length ≤ 1000000000000) : spec_l10Log.fL xs = some (logOk xs) := by
 rw [spec_l10Log.fL_eq, spec_l10Log_le xs hx xs 0 (by omega) (by omega) (by omega) (by simp)]; rfl
theorem spec_l10Copy_e (a b : ByteArray) (xs : List S181) (ys : List S217) (g : Bool) (s : ByteArray) (hx : xs.length ≤ 2000000) (hy : ys.length ≤ 2000000) : spec_l10Copy.f a b xs ys g s = some (a, b, xs, ys, g, s) := by
 unfold spec_l10Copy.f
 rw [Option.bind_some, if_pos (by simp; omega), Option.bind_some, if_pos (by simp; omega)]
 simp
theorem pairGet_neg (l : List S181) (k : ByteArray) : pairGet l k < 0 ↔ pairGet l k = -1 := by
 constructor
 ·intro h
  by_cases hl : pairsOk l = true
  ·rcases pairs_split k l ((pairsOk_iff _).1 hl).2.2 with ⟨A, B, v, rfl, h1, h2⟩ | ⟨A, B, rfl, h1, h2⟩
   ·have hv := (pairItem_of hl).2
    rw [pairGet_hit hl h1 h2] at h; omega
   ·exact pairGet_no h1 h2
  ·unfold pairGet; rw [if_neg hl]
 ·intro h; omega
theorem spec_ApplyCommand_e (xs : List S181) (k : Int) (key : ByteArray) (v o : Int) : spec_ApplyCommand.fL xs k key v o = some (applyCmd xs k key v o) := by
 have jt : spec_ApplyCommand.j0L xs true k key v o = some ([], -3) := by rw [spec_ApplyCommand.j0L_eq, if_pos rfl]
 rw [spec_ApplyCommand.fL_eq, spec_PairsValid_f, Option.bind_some, spec_CommandValid_f, Option.bind_some, jt]
 unfold applyCmd
 by_cases h1 : pairsOk xs = true
 ·have h48 := pairsOk_le h1
  rw [if_pos h1]
  by_cases h2 : cmdOk k key v o = true
  ·rw [if_pos h2]
   by_cases h3 : k = 5
   ·rw [show (k == 5) = true by rw [h3]; rfl, jt, if_neg (fun q => q.2.2 h3)]
   ·have j1 : ∀ q : Bool, spec_ApplyCommand.j1L xs xs (pairGet xs key) q k key v o = some (if q = true then (xs, pairGet xs key) else if k = 3 then ((pairDrop xs key).1, pairGet xs key) else if pairGet xs key = -1 ∧ 8 ≤ xs.length then (xs, -2) else ((pairPut xs key v).1, pairGet xs key)) := by
     intro q
     rw [spec_ApplyCommand.j1L_eq, spec_PairDrop_f xs key (by omega), Option.bind_some, spec_PairPut_f xs key v (by omega), Option.bind_some]
     cases q with
     | true => rw [if_pos rfl, if_pos rfl]
     | false =>
      rw [if_neg (by simp), if_neg (show ¬ (false = true) by simp)]
      by_cases c3 : k = 3
      ·rw [if_pos c3, if_pos c3]
      ·rw [if_neg c3, if_neg c3]
       by_cases e : pairGet xs key = -1
       ·rw [if_pos (by omega)]
        by_cases q : (xs.length : Int) ≥ 8
        ·rw [if_pos q, if_pos ⟨e, by omega⟩]
        ·rw [if_neg q, if_neg (fun z => by omega)]
       ·rw [if_neg (fun z => e ((pairGet_neg xs key).1 z)), if_neg (fun z => e z.1)]
    rw [show (k == 5) = false by simpa using h3, spec_ApplyCommand.j0L_eq, if_neg (by simp), Option.bind_some, if_pos (by simp; omega), Option.bind_some, spec_PairGet_f xs key (by omega), Option.bind_some, List.nil_append, j1, j1, j1, if_pos (show pairsOk xs = true ∧ cmdOk k key v o = true ∧ ¬ k = 5 from ⟨h1, h2, h3⟩)]
    have jT : ∀ B : List S181 × Int, (if true = true then (xs, pairGet xs key) else B) = (xs, pairGet xs key) := fun _ => if_pos rfl
    have jF : ∀ B : List S181 × Int, (if false = true then (xs, pairGet xs key) else B) = B := fun _ => if_neg Bool.false_ne_true
    rw [jT, jF]
    by_cases c1 : k = 1
    ·rw [if_pos c1, if_neg (show ¬ k = 3 by omega), if_pos (show k = 1 ∨ (k = 4 ∧ ¬ o = pairGet xs key) from Or.inl c1)]
    ·rw [if_neg c1]
     by_cases c4 : k = 4
     ·have k3 : ¬ k = 3 := by omega
      rw [if_pos c4]
      by_cases e : o = pairGet xs key
      ·rw [if_neg (show ¬ ((o != pairGet xs key) = true) by rw [e]; simp), if_neg k3, if_neg k3, if_neg (show ¬ (k = 1 ∨ (k = 4 ∧ ¬ o = pairGet xs key)) from fun z => z.elim c1 (fun z => z.2 e))]
      ·rw [if_pos (show (o != pairGet xs key) = true by simpa using e), if_neg k3, if_pos (show k = 1 ∨ (k = 4 ∧ ¬ o = pairGet xs key) from Or.inr ⟨c4, e⟩)]
     ·rw [if_neg c4]
      by_cases c3 : k = 3
      ·rw [if_pos c3, if_pos c3]
      ·rw [if_neg c3, if_neg c3, if_neg (show ¬ (k = 1 ∨ (k = 4 ∧ ¬ o = pairGet xs key)) from fun z => z.elim c1 (fun z => c4 z.1))]
  ·rw [if_neg h2, if_neg (fun q => h2 q.2.1)]
 ·rw [if_neg h1, if_neg (fun q => h1 q.1)]
theorem spec_ApplyEntry_e (lo hi : ByteArray) (xs : List S181) (ys : List S217) (g : Bool) (s : ByteArray) (c n k : Int) (key : ByteArray) (v o : Int) (hy : ys.length ≤ 2000000) : spec_ApplyEntry.fL lo hi xs ys g s c n k key v o = some (applyEnt lo hi xs ys g s c n k key v o) := by
 have jt : spec_ApplyEntry.j0L true lo hi xs ys g s c n k key v o = some ((⟨#[]⟩ : ByteArray), (⟨#[]⟩ : ByteArray), [], [], false, (⟨#[]⟩ : ByteArray), -3) := by rw [spec_ApplyEntry.j0L_eq, if_pos rfl]
 rw [spec_ApplyEntry.fL_eq, spec_StateValid_f lo hi xs ys g s hy, Option.bind_some, spec_EntryValid_e, Option.bind_some, jt]
 unfold applyEnt
 by_cases h1 : stateOk lo hi xs ys g s = true
 ·obtain ⟨hv, hp, hs⟩ := stateOk_says h1
  have h48 := pairsOk_le hp
  have h4 := sessOk_len hs
  rw [if_pos h1]
  by_cases h2 : entOk c n k key v o = true
  ·have hn : 1 ≤ n ∧ cmdOk k key v o = true := by
    have := h2; unfold entOk at this; rw [Bool.and_eq_true, Bool.and_eq_true, decide_eq_true_eq, decide_eq_true_eq] at this; exact ⟨this.1.2.1, this.2⟩
   obtain ⟨a1, a2, a3, a4, hc⟩ := spec_IntervalCut_e lo hi key
   have j1t : ∀ q : Bool, spec_ApplyEntry.j1L q true lo hi xs ys g s c n k key v o lo hi xs ys g s = some (lo, hi, xs, ys, g, s, -3) := by intro q; rw [spec_ApplyEntry.j1L_eq, if_pos rfl]
   have j1f : spec_ApplyEntry.j1L (k == 5) false lo hi xs ys g s c n k key v o lo hi xs ys g s = some (if k = 5 then (lo, hi, xs, (sessPut ys ⟨c, n, 0⟩).1, true, key, 0) else (lo, hi, (applyCmd xs k key v o).1, (sessPut ys ⟨c, n, (applyCmd xs k key v o).2⟩).1, g, s, (applyCmd xs k key v o).2)) := by
    rw [spec_ApplyEntry.j1L_eq, if_neg (by simp), spec_SessionPut_f ys _ _ _ (by omega), Option.bind_some, spec_ApplyCommand_e, Option.bind_some, spec_SessionPut_f ys _ _ _ (by omega), Option.bind_some]
    by_cases e : k = 5
    ·rw [if_pos (by simpa using e), if_pos e]
    ·rw [if_neg (by simpa using e), if_neg e]
   rw [if_pos ⟨h1, h2⟩, h2, Bool.not_true, spec_ApplyEntry.j0L_eq, if_neg (by simp), spec_l10Copy_e lo hi xs ys g s (by omega) (by omega), Option.bind_some, spec_l9Find_f ys c hs, Option.bind_some, hc, Option.bind_some, spec_IntervalHas_e, Option.bind_some]
   dsimp only
   rw [j1t, j1f]
   by_cases hh : shit c ys = true ∧ n ≤ (sessOf ys c).f1
   ·rw [if_pos hh]
    by_cases r : n = (sessOf ys c).f1
    ·rw [if_pos r.symm, if_pos r]
    ·rw [if_neg (fun z => r z.symm), if_pos (by have := hh.2; omega), if_neg r]
   ·have hlt : (sessOf ys c).f1 < n := by
     by_cases q : shit c ys = true
     ·have : ¬ n ≤ (sessOf ys c).f1 := fun z => hh ⟨q, z⟩
      omega
     ·have : sessOf ys c = ⟨0, 0, 0⟩ := by unfold sessOf; rw [if_neg q]
      rw [this]; show (0 : Int) < n; omega
    rw [if_neg hh, if_neg (by omega), if_neg (by omega)]
    by_cases e : g = true
    ·rw [if_pos e, if_pos (Or.inl e)]
    ·rw [if_neg e]
     have tk : takes lo hi k key = true → ¬ (g = true ∨ takes lo hi k key = false) := fun ht q => q.elim e (fun q => by rw [ht] at q; cases q)
     have tf : takes lo hi k key = false → (g = true ∨ takes lo hi k key = false) := Or.inr
     by_cases k5 : k = 5
     ·rw [if_pos k5]
      by_cases en : key.toList = []
      ·have ht : takes lo hi k key = true := by unfold takes; rw [if_pos k5, decide_eq_true en]; rfl
       rw [if_pos en, if_neg (tk ht)]
      ·rw [if_neg en]
       cases hcut : cutOk lo hi key with
       | true =>
        have ht : takes lo hi k key = true := by unfold takes; rw [if_pos k5, decide_eq_false en, hcut]; rfl
        rw [if_pos rfl, if_neg (tk ht)]
       | false =>
        have ht : takes lo hi k key = false := by unfold takes; rw [if_pos k5, decide_eq_false en, hcut]; rfl
        rw [if_neg Bool.false_ne_true, if_pos (tf ht)]
     ·have hk : keyOk (bs key) = true := by
       have := hn.2; unfold cmdOk at this; rw [Bool.and_eq_true, Bool.and_eq_true, Bool.or_eq_true, Bool.and_eq_true, decide_eq_true_eq, decide_eq_true_eq] at this
       exact this.1.2.resolve_right (fun q => k5 q.1)
      rw [if_neg k5, hv, hk, Bool.true_and, Bool.true_and]
      cases hin : inIv lo hi key with
      | true =>
       have ht : takes lo hi k key = true := by unfold takes; rw [if_neg k5, hin]
       rw [Bool.not_true, j1f, if_neg (tk ht)]
      | false =>
       have ht : takes lo hi k key = false := by unfold takes; rw [if_neg k5, hin]
       rw [Bool.not_false, j1t, if_pos (tf ht)]
  ·rw [if_neg (fun q => h2 q.2), Bool.eq_false_iff.2 h2, Bool.not_false, jt]
 ·rw [if_neg h1, if_neg (fun q => h1 q.1)]
theorem spec_ChangesOf_le (es : List S118) (he : es.length ≤ 24) : ∀ (zs : List S118) (i : Int) (out : List S106) (lo hi : ByteArray) (xs : List S181) (ys : List S217) (g : Bool) (s : ByteArray), xs.length ≤ 48 → ys.length ≤ 5 → 0 ≤ i → i ≤ es.length → (out.length : Int) ≤ i → es.drop i.toNat = zs →
  spec_ChangesOf.l0L es out i lo hi xs ys g s = some (out ++ changesFrom lo hi xs ys g s i zs)
 | [], i, out, lo, hi, xs, ys, g, s, hx, hy, h0, h1, ho, hd => by
  have := drop_nil h0 h1 hd
  rw [spec_ChangesOf.l0L_eq, if_neg (by omega)]; simp [changesFrom]
 | z :: zs, i, out, lo, hi, xs, ys, g, s, hx, hy, h0, h1, ho, hd => by
  obtain ⟨hr0, hl, hd'⟩ := getD_cons (d := z118) h0 hd
  have hr : rd_T118 es i = z := hr0
  have ha : spec_ApplyEntry.fL lo hi xs ys g s z.f0 z.f1 z.f2.f0 z.f2.f1 z.f2.f2 z.f2.f3 = some (applyE lo hi xs ys g s z) := spec_ApplyEntry_e lo hi xs ys g s _ _ _ _ _ _ (by omega)
  obtain ⟨hlx, hly⟩ := applyEnt_length lo hi xs ys g s z.f0 z.f1 z.f2.f0 z.f2.f1 z.f2.f2 z.f2.f3
  have hlx : (applyE lo hi xs ys g s z).2.2.1.length ≤ 48 := hlx
  have hly : (applyE lo hi xs ys g s z).2.2.2.1.length ≤ 5 := hly
  rw [spec_ChangesOf.l0L_eq, if_pos hl, if_pos h0, hr, ha, Option.bind_some, spec_PairGet_f xs _ (by omega), Option.bind_some, spec_PairGet_f _ _ (by omega), Option.bind_some, w64 (by omega) (by omega)]
  simp only [changesFrom]
  by_cases e : pairGet xs z.f2.f1 = pairGet (applyE lo hi xs ys g s z).2.2.1 z.f2.f1
  ·rw [if_pos e, if_pos e, spec_ChangesOf_le es he zs (i + 1) out _ _ _ _ _ _ hlx hly (by omega) (by omega) (by omega) hd', List.nil_append]
  ·rw [if_neg e, if_neg e, if_pos (by omega), spec_ChangesOf_le es he zs (i + 1) _ _ _ _ _ _ _ hlx hly (by omega) (by omega) (by simp; omega) hd', List.append_assoc]
theorem spec_ChangesOf_f (lo hi : ByteArray) (xs : List S181) (ys : List S217) (g : Bool) (s : ByteArray) (es : List S118) (hy : ys.length ≤ 2000000) (he : es.length ≤ 1000000000000) : spec_ChangesOf.fL lo hi xs ys g s es = some (changesOf lo hi xs ys g s es) := by
 have jt : spec_ChangesOf.j0L es [] true lo hi xs ys g s = some [] := by rw [spec_ChangesOf.j0L_eq, if_pos rfl]
 rw [spec_ChangesOf.fL_eq, Option.bind_some, spec_StateValid_f lo hi xs ys g s hy, Option.bind_some, spec_l10Log_f es he, Option.bind_some, jt]
 unfold changesOf
 by_cases h1 : stateOk lo hi xs ys g s = true
 ·obtain ⟨_, hp, hs⟩ := stateOk_says h1
  have h48 := pairsOk_le hp
  have h4 := sessOk_len hs
  rw [if_pos h1]
  by_cases h2 : logOk es = true
  ·have hl : es.length ≤ 24 := by have := h2; unfold logOk at this; rw [Bool.and_eq_true, decide_eq_true_eq] at this; exact this.1
   rw [if_pos ⟨h1, h2⟩, h2, Bool.not_true, spec_ChangesOf.j0L_eq, if_neg (by simp), spec_l10Copy_e lo hi xs ys g s (by omega) (by omega), Option.bind_some]
   dsimp only
   rw [spec_ChangesOf_le es hl es 0 [] lo hi xs ys g s (by omega) (by omega) (by omega) (by omega) (by simp) (by simp), List.nil_append]
  ·rw [if_neg (fun q => h2 q.2), Bool.eq_false_iff.2 h2, Bool.not_false, jt]
 ·rw [if_neg h1, if_neg (fun q => h1 q.1)]

/-! #### intS -/
theorem set_at {α : Type} {xs : List α} {i : Nat} {y z : α} {ys : List α} (h : xs.drop i = y :: ys) : (xs.set i z).take (i + 1) = xs.take i ++ [z] ∧ (xs.set i z).drop (i + 1) = ys ∧ (xs.set i z).length = xs.length := by
 have h1 : i < xs.length := by
  by_cases e : i < xs.length
  ·exact e
  ·rw [List.drop_eq_nil_of_le (by omega)] at h; cases h
 rw [List.drop_eq_getElem_cons h1] at h
 injection h with ha hb
 refine ⟨?_, ?_, by simp⟩
 ·rw [List.take_succ_eq_append_getElem (by simpa using h1), List.take_set_of_le (by omega)]; simp
 ·rw [List.drop_set_of_lt (by omega)]; exact hb
theorem drop_take_cons {α : Type} {xs pre : List α} {i : Nat} {y : α} {ys : List α} (h : xs.drop i = y :: ys) : xs.take (i + 1) = xs.take i ++ [y] ∧ i < xs.length ∧ xs.drop (i + 1) = ys := by
 have h1 : i < xs.length := by
  by_cases e : i < xs.length
  ·exact e
  ·rw [List.drop_eq_nil_of_le (by omega)] at h; cases h
 rw [List.drop_eq_getElem_cons h1] at h
 injection h with ha hb
 exact ⟨by rw [List.take_succ_eq_append_getElem h1, ha], h1, hb⟩

/-! #### loops -/
theorem getD_drop {α : Type} {xs : List α} {d : α} {i : Int} {y : α} {ys : List α} (h0 : 0 ≤ i) (h : xs.drop i.toNat = y :: ys) : xs.getD i.toNat d = y ∧ i < xs.length ∧ xs.drop (i + 1).toNat = ys := by
 have h1 : i.toNat < xs.length := by
  by_cases e : i.toNat < xs.length
  ·exact e
  ·rw [List.drop_eq_nil_of_le (by omega)] at h; cases h
 rw [List.drop_eq_getElem_cons h1] at h
 injection h with ha hb
 refine ⟨?_, by omega, ?_⟩
 ·rw [List.getD_eq_getElem?_getD, List.getElem?_eq_getElem h1]; exact ha
 ·rw [show (i + 1).toNat = i.toNat + 1 by omega]; exact hb
/-- A copy, element by element, into a list of the same length. -/
theorem copy_loop {α : Type} (ys : List α) (d : α) (n : Nat) (hn : n = ys.length) (L : List α → Int → Option (List α))
  (hL : ∀ (zs : List α) (i : Int), 0 ≤ i → i ≤ n → zs.length = n → L zs i = if i < (n : Int) then L (zs.set i.toNat (ys.getD i.toNat d)) (i + 1) else some zs) :
  ∀ (ws zs : List α) (i : Int), 0 ≤ i → i ≤ n → ys.drop i.toNat = ws → zs.length = n → zs.take i.toNat = ys.take i.toNat → L zs i = some ys
 | [], zs, i, h0, h1, hd, hl, ht => by
  have := drop_nil h0 (by omega) hd
  rw [hL zs i h0 h1 hl, if_neg (by omega)]
  rw [List.take_of_length_le (by omega), List.take_of_length_le (by omega)] at ht
  rw [ht]
 | w :: ws, zs, i, h0, h1, hd, hl, ht => by
  obtain ⟨hr, hlt, hd'⟩ := getD_drop (d := d) h0 hd
  obtain ⟨t1, _, _⟩ := drop_take_cons (pre := ys) hd
  have hz : zs.drop i.toNat = zs[i.toNat]'(by omega) :: zs.drop (i.toNat + 1) := List.drop_eq_getElem_cons (by omega)
  obtain ⟨s1, s2, s3⟩ := set_at (z := w) hz
  rw [hL zs i h0 h1 hl, if_pos (by omega), hr]
  exact copy_loop ys d n hn L hL ws _ (i + 1) (by omega) (by omega) hd' (by omega) (by rw [show (i + 1).toNat = i.toNat + 1 by omega, s1, t1, ht])
theorem copy_loop0 {α : Type} (ys zs : List α) (d : α) (n : Nat) (hn : n = ys.length) (hz : zs.length = n) (L : List α → Int → Option (List α))
  (hL : ∀ (zs : List α) (i : Int), 0 ≤ i → i ≤ n → zs.length = n → L zs i = if i < (n : Int) then L (zs.set i.toNat (ys.getD i.toNat d)) (i + 1) else some zs) : L zs 0 = some ys :=
 copy_loop ys d n hn L hL ys zs 0 (by omega) (by omega) (by simp) hz (by simp)
/-- Marks: an element for each number, c numbers an element. -/
def marks {α : Type} (el : Int → α) (c : Int) : Nat → Int → List α
 | 0, _ => []
 | n + 1, k => el k :: marks el c n (k + c)
theorem marks_length {α : Type} (el : Int → α) (c : Int) : ∀ (n : Nat) (k : Int), (marks el c n k).length = n
 | 0, _ => rfl
 | n + 1, k => by simp [marks, marks_length el c n]
theorem mark_loop {α : Type} (el : Int → α) (c : Int) (hc : 0 ≤ c) (hc2 : c ≤ 1000) (n : Nat) (hn : n ≤ 1000000000) (L : List α → Int → Int → Option (Int × List α))
  (hL : ∀ (zs : List α) (k i : Int), 0 ≤ i → i ≤ n → zs.length = n → 0 ≤ k → k ≤ 100000000000 + 1000 * n → L zs k i = if i < (n : Int) then L (zs.set i.toNat (el k)) (k + c) (i + 1) else some (k, zs)) :
  ∀ (ys zs : List α) (k i : Int), 0 ≤ i → i ≤ n → zs.length = n → zs.drop i.toNat = ys → 0 ≤ k → k ≤ 100000000000 + 1000 * i → L zs k i = some (k + c * ys.length, zs.take i.toNat ++ marks el c ys.length k)
 | [], zs, k, i, h0, h1, hl, hd, hk, hk2 => by
  have := drop_nil h0 (by omega) hd
  rw [hL zs k i h0 h1 hl hk (by omega), if_neg (by omega), List.take_of_length_le (by omega)]; simp [marks]
 | y :: ys, zs, k, i, h0, h1, hl, hd, hk, hk2 => by
  obtain ⟨hr, hlt, hd'⟩ := getD_drop (d := y) h0 hd
  obtain ⟨s1, s2, s3⟩ := set_at (z := el k) hd
  rw [hL zs k i h0 h1 hl hk (by omega), if_pos (by omega),
   mark_loop el c hc hc2 n hn L hL ys _ (k + c) (i + 1) (by omega) (by omega) (by omega) (by rw [show (i + 1).toNat = i.toNat + 1 by omega]; exact s2) (by omega) (by omega),
   show (i + 1).toNat = i.toNat + 1 by omega, s1]
  simp only [List.length_cons, marks, List.append_assoc, List.singleton_append]
  congr 2
  rw [show ((ys.length + 1 : Nat) : Int) = (ys.length : Int) + 1 by omega, Int.mul_add]
  omega
theorem mark_loop0 {α : Type} (el : Int → α) (c : Int) (hc : 0 ≤ c) (hc2 : c ≤ 1000) (zs : List α) (hn : zs.length ≤ 1000000000) (k : Int) (hk : 0 ≤ k) (hk2 : k ≤ 100000000000) (L : List α → Int → Int → Option (Int × List α))
  (hL : ∀ (ws : List α) (k i : Int), 0 ≤ i → i ≤ zs.length → ws.length = zs.length → 0 ≤ k → k ≤ 100000000000 + 1000 * zs.length → L ws k i = if i < (zs.length : Int) then L (ws.set i.toNat (el k)) (k + c) (i + 1) else some (k, ws)) :
  L zs k 0 = some (k + c * zs.length, marks el c zs.length k) := by
 have := mark_loop el c hc hc2 zs.length hn L hL zs zs k 0 (by omega) (by omega) rfl (by simp) hk (by omega)
 simpa using this
theorem held_loop {α : Type} (el : Int → α) (d : α) (c : Int) (hc : 0 ≤ c) (hc2 : c ≤ 1000) (zs : List α) (hn : zs.length ≤ 1000000000) (L : Int → Int → Option Int)
  (hL : ∀ k i : Int, 0 ≤ i → i ≤ zs.length → 0 ≤ k → k ≤ 100000000000 + 1000 * zs.length → (i < zs.length → zs.getD i.toNat d = el k) → L k i = if i < (zs.length : Int) then L (k + c) (i + 1) else some k) :
  ∀ (n : Nat) (k i : Int), 0 ≤ i → i ≤ zs.length → zs.drop i.toNat = marks el c n k → 0 ≤ k → k ≤ 100000000000 + 1000 * i → L k i = some (k + c * n)
 | 0, k, i, h0, h1, hd, hk, hk2 => by
  have := drop_nil h0 h1 hd
  rw [hL k i h0 h1 hk (by omega) (fun h => by omega), if_neg (by omega)]; simp
 | n + 1, k, i, h0, h1, hd, hk, hk2 => by
  obtain ⟨hr, hlt, hd'⟩ := getD_drop (d := d) h0 hd
  rw [hL k i h0 h1 hk (by omega) (fun _ => hr), if_pos hlt, held_loop el d c hc hc2 zs hn L hL n (k + c) (i + 1) (by omega) (by omega) hd' (by omega) (by omega)]
  congr 1
  rw [show ((n + 1 : Nat) : Int) = (n : Int) + 1 by omega, Int.mul_add]
  omega
theorem held_loop0 {α : Type} (el : Int → α) (d : α) (c : Int) (hc : 0 ≤ c) (hc2 : c ≤ 1000) (n : Nat) (hn : n ≤ 1000000000) (k : Int) (hk : 0 ≤ k) (hk2 : k ≤ 100000000000) (L : Int → Int → Option Int)
  (hL : ∀ k' i : Int, 0 ≤ i → i ≤ n → 0 ≤ k' → k' ≤ 100000000000 + 1000 * n → (i < n → (marks el c n k).getD i.toNat d = el k') → L k' i = if i < (n : Int) then L (k' + c) (i + 1) else some k') :
  L k 0 = some (k + c * n) := by
 have hm := marks_length el c n k
 refine held_loop el d c hc hc2 (marks el c n k) (by omega) L (fun k' i => ?_) n k 0 (by omega) (by omega) (by simp) hk (by omega)
 rw [hm]
 exact hL k' i
theorem getD_map' {α β : Type} (f : α → β) (xs : List α) (i : Nat) (d : α) (e : β) (h : i < xs.length) : (xs.map f).getD i e = f (xs.getD i d) := by
 simp [List.getD_eq_getElem?_getD, List.getElem?_eq_getElem h]

/-! #### refl_loop -/
theorem refl_loop (n : Nat) (L : Int → Option Bool) (hL : ∀ i : Int, 0 ≤ i → i ≤ n → L i = if i < (n : Int) then L (i + 1) else some true) : ∀ (m : Nat) (i : Int), i + m = n → 0 ≤ i → L i = some true
 | 0, i, h, h0 => by rw [hL i h0 (by omega), if_neg (by omega)]
 | m + 1, i, h, h0 => by rw [hL i h0 (by omega), if_pos (by omega)]; exact refl_loop n L hL m (i + 1) (by omega) (by omega)
theorem refl_loop0 (n : Nat) (L : Int → Option Bool) (hL : ∀ i : Int, 0 ≤ i → i ≤ n → L i = if i < (n : Int) then L (i + 1) else some true) : L 0 = some true := refl_loop n L hL n 0 (by omega) (by omega)

/-! #### pairS -/
/-- A pair of the law's own, as the program's. -/
def cvPair (x : S215) : S181 := ⟨x.f0, x.f1⟩
theorem toPairS_f (xs : List S215) (hx : xs.length ≤ 1048576) : laws_toPairS.fL xs = some (xs.map cvPair) := by
 rw [laws_toPairS.fL_eq, if_pos (by omega), if_pos (by omega)]
 refine copy_loop0 (xs.map cvPair) _ z181 xs.length (by simp) (by simp) (fun zs i => laws_toPairS.l0L xs zs i) (fun zs i h0 h1 hl => ?_)
 rw [laws_toPairS.l0L_eq]
 unfold laws_toPair.f
 by_cases h : i < (xs.length : Int)
 ·rw [if_pos h, if_pos h0, Option.bind_some, if_pos (by omega), w64 (by omega) (by omega), if_pos h, getD_map' cvPair xs i.toNat z215 _ (by omega)]; rfl
 ·rw [if_neg h, if_neg h]
theorem eqPair_refl (a : ByteArray) (b : Int) : laws_eqPair.f a b a b = some true := by unfold laws_eqPair.f; simp
theorem eqPairS_refl (xs : List S181) (hx : xs.length ≤ 1000000000000) : laws_eqPairS.fL xs xs = some true := by
 rw [laws_eqPairS.fL_eq, if_pos rfl]
 refine refl_loop0 xs.length (fun i => laws_eqPairS.l0L xs xs i) (fun i h0 h1 => ?_)
 rw [laws_eqPairS.l0L_eq]
 by_cases h : i < (xs.length : Int)
 ·rw [if_pos h, if_pos h0, if_pos h, eqPair_refl, Option.bind_some, if_pos rfl, w64 (by omega) (by omega), if_pos h]
 ·rw [if_neg h, if_neg h]
theorem szPair_f (s : ByteArray) (b k : Int) (hs : s.size ≤ 9223372036854775807) (h0 : 0 ≤ k) (h1 : k ≤ 1048576) : ∃ r, laws_szPair.f s b k = some r ∧ -1 ≤ r ∧ r ≤ k := by
 unfold laws_szPair.f
 rw [w64 (by omega) (by omega)]
 by_cases h : k - (s.size : Int) < 0
 ·rw [if_pos h]; exact ⟨_, rfl, by omega, by omega⟩
 ·rw [if_neg h]; exact ⟨_, rfl, by omega, by omega⟩
theorem szPairS_l0 (xs : List S215) (hx : xs.length ≤ 1048576) (hB : ∀ x ∈ xs, x.f0.size ≤ 9223372036854775807) : ∀ (n : Nat) (i k : Int), i + n = xs.length → 0 ≤ i → 0 ≤ k → k ≤ 1048576 → ∃ r, laws_szPairS.l0L xs k i = some r ∧ r ≤ k
 | 0, i, k, hi, h0, h1, h2 => by rw [laws_szPairS.l0L_eq, if_neg (by omega)]; exact ⟨_, rfl, by omega⟩
 | n + 1, i, k, hi, h0, h1, h2 => by
  have hm : rd_T215 xs i ∈ xs := by
   unfold rd_T215
   rw [List.getD_eq_getElem?_getD, List.getElem?_eq_getElem (show i.toNat < xs.length by omega)]
   exact List.getElem_mem _
  obtain ⟨r, hr, r0, r1⟩ := szPair_f (rd_T215 xs i).f0 (rd_T215 xs i).f1 k (hB _ hm) h1 h2
  rw [laws_szPairS.l0L_eq, if_pos (by omega), if_pos h0, hr, Option.bind_some, w64 (by omega) (by omega)]
  by_cases h : r < 0
  ·rw [if_pos h]; exact ⟨_, rfl, by omega⟩
  ·rw [if_neg h]
   obtain ⟨q, hq, hq2⟩ := szPairS_l0 xs hx hB n (i + 1) r (by omega) (by omega) (by omega) (by omega)
   exact ⟨q, hq, by omega⟩
/-- The size is told; if there is room, the list is short. -/
theorem szPairS_f (xs : List S215) (k : Int) (h0 : 0 ≤ k) (h1 : k ≤ 1048576) (hl : xs.length ≤ 9223372036854775807) (hB : ∀ x ∈ xs, x.f0.size ≤ 9223372036854775807) : ∃ r, laws_szPairS.fL xs k = some r ∧ r ≤ k ∧ (r < 0 ∨ xs.length ≤ 1048576) := by
 rw [laws_szPairS.fL_eq, w64 (by omega) (by omega)]
 by_cases h : k - (xs.length : Int) < 0
 ·rw [if_pos h]; exact ⟨_, rfl, by omega, .inl (by omega)⟩
 ·rw [if_neg h]
  obtain ⟨r, hr, hle⟩ := szPairS_l0 xs (by omega) hB xs.length 0 (k - xs.length) (by omega) (by omega) (by omega) (by omega)
  exact ⟨r, hr, by omega, .inr (by omega)⟩

/-! #### markText -/
theorem son_size (xs : List Int) : (strOfNums xs).size = xs.length := by simp [strOfNums, ByteArray.size]
theorem markText_l0 : ∀ (n : Nat) (k : Int) (s : ByteArray), 0 ≤ k → k < 10 ^ n → k ≤ 9223372036854775807 → s.size + n ≤ 1000 → ∃ r, laws_markText.l0L k s = some r
 | 0, k, s, h0, h1, h2, hs => by
  rw [laws_markText.l0L_eq, if_neg (by simp at h1; omega), if_pos (by omega)]; exact ⟨_, rfl⟩
 | n + 1, k, s, h0, h1, h2, hs => by
  by_cases e : k > 0
  ·have hd : Int.tdiv k 10 = k / 10 := Int.tdiv_eq_ediv_of_nonneg h0
   have hp : (10 : Int) ^ (n + 1) = 10 ^ n * 10 := Int.pow_succ 10 n
   have h3 : k / 10 < 10 ^ n := by omega
   rw [laws_markText.l0L_eq, if_pos e, Option.bind_some, if_pos (by rw [son_size]; simp; omega), hd, w64 (n := k / 10) (by omega) (by omega)]
   exact markText_l0 n (k / 10) _ (by omega) h3 (by omega) (by rw [ByteArray.size_append, son_size]; simp; omega)
  ·rw [laws_markText.l0L_eq, if_neg e, if_pos (by omega)]; exact ⟨_, rfl⟩
theorem markText_ok (k : Int) (h0 : 0 ≤ k) (h1 : k ≤ 9223372036854775807) : ∃ r, laws_markText.fL k = some r := by
 rw [laws_markText.fL_eq]
 by_cases e : k ≤ 0
 ·rw [if_pos e]; exact ⟨_, rfl⟩
 ·rw [if_neg e]; exact markText_l0 30 k _ h0 (by omega) h1 (show 0 + 30 ≤ 1000 by omega)
/-- The text of a mark. -/
noncomputable def mt (k : Int) : ByteArray := (laws_markText.fL k).getD (⟨#[]⟩ : ByteArray)
theorem mt_eq (k : Int) (h0 : 0 ≤ k) (h1 : k ≤ 9223372036854775807) : laws_markText.fL k = some (mt k) := by
 obtain ⟨r, hr⟩ := markText_ok k h0 h1
 unfold mt
 rw [hr]; rfl

/-! #### markPair -/
noncomputable def elPair (k : Int) : S181 := ⟨mt k, k + 1⟩
theorem rd_set_pair (xs : List S181) (i : Int) (y : S181) (h0 : 0 ≤ i) (h : i < xs.length) : rd_T181 (xs.set i.toNat y) i = y := by
 unfold rd_T181
 rw [List.getD_eq_getElem?_getD, List.getElem?_set_self (by omega)]; rfl
theorem markPairS_f (xs : List S181) (k : Int) (hx : xs.length ≤ 1000000000) (hk : 0 ≤ k) (hk2 : k ≤ 100000000000) : laws_markPairS.fL xs k = some (k + 2 * xs.length, marks elPair 2 xs.length k) := by
 rw [laws_markPairS.fL_eq]
 refine mark_loop0 elPair 2 (by omega) (by omega) xs hx k hk hk2 (fun zs k i => laws_markPairS.l0L zs k i) (fun zs k i h0 h1 hl hk hk2 => ?_)
 rw [laws_markPairS.l0L_eq]
 by_cases h : i < (xs.length : Int)
 ·have hz : i < (zs.length : Int) := by omega
  rw [if_pos hz, mt_eq k (by omega) (by omega), Option.bind_some, if_pos h0, Option.bind_some, w64 (n := k + 1) (by omega) (by omega), w64 (n := k + 1 + 1) (by omega) (by omega), w64 (n := i + 1) (by omega) (by omega), if_pos h]
  rw [rd_set_pair zs i _ h0 hz, List.set_set, show k + 1 + 1 = k + 2 by omega]
  rfl
 ·rw [if_neg (by omega), if_neg h]

/-! #### stateS -/
def cvSession (x : S225) : S217 := ⟨x.f0, x.f1, x.f2⟩
theorem toSessionS_f (xs : List S225) (hx : xs.length ≤ 1048576) : laws_toSessionS.fL xs = some (xs.map cvSession) := by
 rw [laws_toSessionS.fL_eq, if_pos (by omega), if_pos (by omega)]
 refine copy_loop0 (xs.map cvSession) _ z217 xs.length (by simp) (by simp) (fun zs i => laws_toSessionS.l0L xs zs i) (fun zs i h0 h1 hl => ?_)
 rw [laws_toSessionS.l0L_eq]
 unfold laws_toSession.f
 by_cases h : i < (xs.length : Int)
 ·rw [if_pos h, if_pos h0, Option.bind_some, if_pos (by omega), w64 (by omega) (by omega), if_pos h, getD_map' cvSession xs i.toNat z225 _ (by omega)]; rfl
 ·rw [if_neg h, if_neg h]
theorem eqSession_refl (a b c : Int) : laws_eqSession.f a b c a b c = some true := by unfold laws_eqSession.f; simp
theorem eqSessionS_refl (xs : List S217) (hx : xs.length ≤ 1000000000000) : laws_eqSessionS.fL xs xs = some true := by
 rw [laws_eqSessionS.fL_eq, if_pos rfl]
 refine refl_loop0 xs.length (fun i => laws_eqSessionS.l0L xs xs i) (fun i h0 h1 => ?_)
 rw [laws_eqSessionS.l0L_eq]
 by_cases h : i < (xs.length : Int)
 ·rw [if_pos h, if_pos h0, if_pos h, eqSession_refl, Option.bind_some, if_pos rfl, w64 (by omega) (by omega), if_pos h]
 ·rw [if_neg h, if_neg h]
theorem eqInterval_refl (a b : ByteArray) : laws_eqInterval.f a b a b = some true := by unfold laws_eqInterval.f; simp
theorem eqState_refl (a b : ByteArray) (xs : List S181) (ys : List S217) (g : Bool) (s : ByteArray) (hx : xs.length ≤ 1000000000000) (hy : ys.length ≤ 1000000000000) : laws_eqState.fL a b xs ys g s a b xs ys g s = some true := by
 rw [laws_eqState.fL_eq, eqInterval_refl, Option.bind_some, if_pos rfl, eqPairS_refl xs hx, Option.bind_some, if_pos rfl, eqSessionS_refl ys hy, Option.bind_some, if_pos rfl, bne_self_eq_false, if_neg (by simp), if_pos rfl]
theorem toState_f (a b : ByteArray) (xs : List S215) (ys : List S225) (g : Bool) (s : ByteArray) (hx : xs.length ≤ 1048576) (hy : ys.length ≤ 1048576) : laws_toState.fL a b xs ys g s = some (a, b, xs.map cvPair, ys.map cvSession, g, s) := by
 rw [laws_toState.fL_eq, toPairS_f xs hx, toSessionS_f ys hy]
 unfold laws_toInterval.f
 rfl
theorem szState_f (a b : ByteArray) (xs : List S215) (ys : List S225) (g : Bool) (s : ByteArray) (k : Int) (h0 : 0 ≤ k) (h1 : k ≤ 1048576) (ha : a.size ≤ 9223372036854775807) (hb : b.size ≤ 9223372036854775807) (hs : s.size ≤ 9223372036854775807) (hx : xs.length ≤ 9223372036854775807) (hy : ys.length ≤ 9223372036854775807) (hB : ∀ x ∈ xs, x.f0.size ≤ 9223372036854775807) :
  ∃ r, laws_szState.fL a b xs ys g s k = some r ∧ r ≤ k ∧ (r < 0 ∨ xs.length ≤ 1048576 ∧ ys.length ≤ 1048576) := by
 have hi : ∃ r, laws_szInterval.f a b k = some r ∧ -1 ≤ r ∧ r ≤ k := by
  unfold laws_szInterval.f
  rw [w64 (n := k - (a.size : Int)) (by omega) (by omega)]
  by_cases h : k - (a.size : Int) < 0
  ·rw [if_pos h]; exact ⟨_, rfl, by omega, by omega⟩
  ·rw [if_neg h, w64 (by omega) (by omega)]
   by_cases h2 : k - (a.size : Int) - (b.size : Int) < 0
   ·rw [if_pos h2]; exact ⟨_, rfl, by omega, by omega⟩
   ·rw [if_neg h2]; exact ⟨_, rfl, by omega, by omega⟩
 obtain ⟨r, hr, r0, r1⟩ := hi
 rw [laws_szState.fL_eq, hr, Option.bind_some]
 by_cases c : r < 0
 ·rw [if_pos c]; exact ⟨_, rfl, by omega, .inl (by omega)⟩
 ·obtain ⟨r2, hr2, q1, q2⟩ := szPairS_f xs r (by omega) (by omega) hx hB
  rw [if_neg c, hr2, Option.bind_some]
  by_cases c2 : r2 < 0
  ·rw [if_pos c2]; exact ⟨_, rfl, by omega, .inl (by omega)⟩
  ·rw [if_neg c2]
   unfold laws_szSessionS.f
   rw [w64 (n := r2 - (ys.length : Int)) (by omega) (by omega)]
   by_cases c3 : r2 - (ys.length : Int) < 0
   ·rw [if_pos c3, Option.bind_some, if_pos (by omega)]; exact ⟨_, rfl, by omega, .inl (by omega)⟩
   ·rw [if_neg c3, Option.bind_some, if_neg (by omega), w64 (by omega) (by omega)]
    by_cases c4 : r2 - (ys.length : Int) - (s.size : Int) < 0
    ·rw [if_pos c4]; exact ⟨_, rfl, by omega, .inl (by omega)⟩
    ·rw [if_neg c4]; exact ⟨_, rfl, by omega, .inr ⟨by omega, by omega⟩⟩
noncomputable def elSession (k : Int) : S217 := ⟨k, k + 1, k + 1 + 1⟩
theorem rd_set_session (xs : List S217) (i : Int) (y : S217) (h0 : 0 ≤ i) (h : i < xs.length) : rd_T217 (xs.set i.toNat y) i = y := by
 unfold rd_T217
 rw [List.getD_eq_getElem?_getD, List.getElem?_set_self (by omega)]; rfl
theorem markSessionS_f (xs : List S217) (k : Int) (hx : xs.length ≤ 1000000000) (hk : 0 ≤ k) (hk2 : k ≤ 100000000000) : laws_markSessionS.fL xs k = some (k + 3 * xs.length, marks elSession 3 xs.length k) := by
 rw [laws_markSessionS.fL_eq]
 refine mark_loop0 elSession 3 (by omega) (by omega) xs hx k hk hk2 (fun zs k i => laws_markSessionS.l0L zs k i) (fun zs k i h0 h1 hl hk hk2 => ?_)
 rw [laws_markSessionS.l0L_eq]
 by_cases h : i < (xs.length : Int)
 ·have hz : i < (zs.length : Int) := by omega
  rw [if_pos hz, if_pos h0, Option.bind_some, w64 (n := k + 1) (by omega) (by omega), w64 (n := k + 1 + 1) (by omega) (by omega), w64 (n := k + 1 + 1 + 1) (by omega) (by omega), w64 (n := i + 1) (by omega) (by omega), if_pos h]
  simp only [Option.bind_some, rd_set_session _ i _ h0, List.length_set, hz, List.set_set]
  rw [show k + 1 + 1 + 1 = k + 3 by omega]
  rfl
 ·rw [if_neg (by omega), if_neg h]
theorem markState_f (a b : ByteArray) (xs : List S181) (ys : List S217) (g : Bool) (s : ByteArray) (k : Int) (hx : xs.length ≤ 1000000000) (hy : ys.length ≤ 1000000000) (hk : 0 ≤ k) (hk2 : k ≤ 1000000) : ∃ us vs, laws_markState.fL a b xs ys g s k = some (k + 2 * xs.length + 3 * ys.length, us, vs) := by
 rw [laws_markState.fL_eq, markPairS_f xs k hx hk (by omega), Option.bind_some]
 dsimp only
 rw [markSessionS_f ys _ hy (by omega) (by omega), Option.bind_some]
 exact ⟨_, _, rfl⟩

/-! #### entryS -/
theorem cmd_refl (a : Int) (b : ByteArray) (c d : Int) : laws_eqCommand.f a b c d a b c d = some true := by unfold laws_eqCommand.f; simp
theorem ent_refl (x : S118) : laws_eqEntry.f x.f0 x.f1 x.f2.f0 x.f2.f1 x.f2.f2 x.f2.f3 x.f0 x.f1 x.f2.f0 x.f2.f1 x.f2.f2 x.f2.f3 = some true := by
 unfold laws_eqEntry.f; simp [cmd_refl]
theorem eqEntryS_refl (xs : List S118) (hx : xs.length ≤ 1000000000000) : laws_eqEntryS.fL xs xs = some true := by
 rw [laws_eqEntryS.fL_eq, if_pos rfl]
 refine refl_loop0 xs.length (fun i => laws_eqEntryS.l0L xs xs i) (fun i h0 h1 => ?_)
 rw [laws_eqEntryS.l0L_eq]
 by_cases h : i < (xs.length : Int)
 ·rw [if_pos h, if_pos h0, if_pos h, ent_refl, Option.bind_some, if_pos rfl, w64 (by omega) (by omega), if_pos h]
 ·rw [if_neg h, if_neg h]
def cvEntry (x : S159) : S118 := ⟨x.f0, x.f1, ⟨x.f2.f0, x.f2.f1, x.f2.f2, x.f2.f3⟩⟩
theorem toEntryS_f (xs : List S159) (hx : xs.length ≤ 1048576) : laws_toEntryS.fL xs = some (xs.map cvEntry) := by
 rw [laws_toEntryS.fL_eq, if_pos (by omega), if_pos (by omega)]
 refine copy_loop0 (xs.map cvEntry) _ z118 xs.length (by simp) (by simp) (fun zs i => laws_toEntryS.l0L xs zs i) (fun zs i h0 h1 hl => ?_)
 rw [laws_toEntryS.l0L_eq]
 unfold laws_toEntry.f laws_toCommand.f
 by_cases h : i < (xs.length : Int)
 ·rw [if_pos h, if_pos h0, Option.bind_some, Option.bind_some, if_pos (by omega), w64 (by omega) (by omega), if_pos h, getD_map' cvEntry xs i.toNat z159 _ (by omega)]; rfl
 ·rw [if_neg h, if_neg h]
theorem szEntry_f (x : S159) (k : Int) (hs : x.f2.f1.size ≤ 9223372036854775807) (h0 : 0 ≤ k) (h1 : k ≤ 1048576) : ∃ r, laws_szEntry.f x.f0 x.f1 x.f2.f0 x.f2.f1 x.f2.f2 x.f2.f3 k = some r ∧ -1 ≤ r ∧ r ≤ k := by
 unfold laws_szEntry.f laws_szCommand.f
 rw [w64 (by omega) (by omega)]
 by_cases h : k - (x.f2.f1.size : Int) < 0
 ·rw [if_pos h, Option.bind_some, if_pos (by omega)]; exact ⟨_, rfl, by omega, by omega⟩
 ·rw [if_neg h, Option.bind_some, if_neg (by omega)]; exact ⟨_, rfl, by omega, by omega⟩
theorem szEntryS_l0 (xs : List S159) (hx : xs.length ≤ 1048576) (hB : ∀ x ∈ xs, x.f2.f1.size ≤ 9223372036854775807) : ∀ (n : Nat) (i k : Int), i + n = xs.length → 0 ≤ i → 0 ≤ k → k ≤ 1048576 → ∃ r, laws_szEntryS.l0L xs k i = some r ∧ r ≤ k
 | 0, i, k, hi, h0, h1, h2 => by rw [laws_szEntryS.l0L_eq, if_neg (by omega)]; exact ⟨_, rfl, by omega⟩
 | n + 1, i, k, hi, h0, h1, h2 => by
  have hm : rd_T159 xs i ∈ xs := by
   unfold rd_T159
   rw [List.getD_eq_getElem?_getD, List.getElem?_eq_getElem (show i.toNat < xs.length by omega)]
   exact List.getElem_mem _
  obtain ⟨r, hr, r0, r1⟩ := szEntry_f (rd_T159 xs i) k (hB _ hm) h1 h2
  rw [laws_szEntryS.l0L_eq, if_pos (by omega), if_pos h0, hr, Option.bind_some, w64 (by omega) (by omega)]
  by_cases h : r < 0
  ·rw [if_pos h]; exact ⟨_, rfl, by omega⟩
  ·rw [if_neg h]
   obtain ⟨q, hq, hq2⟩ := szEntryS_l0 xs hx hB n (i + 1) r (by omega) (by omega) (by omega) (by omega)
   exact ⟨q, hq, by omega⟩
theorem szEntryS_f (xs : List S159) (k : Int) (h0 : 0 ≤ k) (h1 : k ≤ 1048576) (hl : xs.length ≤ 9223372036854775807) (hB : ∀ x ∈ xs, x.f2.f1.size ≤ 9223372036854775807) : ∃ r, laws_szEntryS.fL xs k = some r ∧ r ≤ k ∧ (r < 0 ∨ xs.length ≤ 1048576) := by
 rw [laws_szEntryS.fL_eq, w64 (by omega) (by omega)]
 by_cases h : k - (xs.length : Int) < 0
 ·rw [if_pos h]; exact ⟨_, rfl, by omega, .inl (by omega)⟩
 ·rw [if_neg h]
  obtain ⟨r, hr, hle⟩ := szEntryS_l0 xs (by omega) hB xs.length 0 (k - xs.length) (by omega) (by omega) (by omega) (by omega)
  exact ⟨r, hr, by omega, .inr (by omega)⟩
noncomputable def elEntry (k : Int) : S118 := ⟨k, k + 1, ⟨k + 1 + 1, mt (k + 1 + 1 + 1), k + 1 + 1 + 1 + 1, k + 1 + 1 + 1 + 1 + 1⟩⟩
theorem rd_set_entry (xs : List S118) (i : Int) (y : S118) (h0 : 0 ≤ i) (h : i < xs.length) : rd_T118 (xs.set i.toNat y) i = y := by
 unfold rd_T118
 rw [List.getD_eq_getElem?_getD, List.getElem?_set_self (by omega)]; rfl
theorem markEntryS_f (xs : List S118) (k : Int) (hx : xs.length ≤ 1000000000) (hk : 0 ≤ k) (hk2 : k ≤ 100000000000) : laws_markEntryS.fL xs k = some (k + 6 * xs.length, marks elEntry 6 xs.length k) := by
 rw [laws_markEntryS.fL_eq]
 refine mark_loop0 elEntry 6 (by omega) (by omega) xs hx k hk hk2 (fun zs k i => laws_markEntryS.l0L zs k i) (fun zs k i h0 h1 hl hk hk2 => ?_)
 rw [laws_markEntryS.l0L_eq]
 by_cases h : i < (xs.length : Int)
 ·have hz : i < (zs.length : Int) := by omega
  rw [if_pos hz, if_pos h0, Option.bind_some, w64 (n := k + 1) (by omega) (by omega), w64 (n := k + 1 + 1) (by omega) (by omega), w64 (n := k + 1 + 1 + 1) (by omega) (by omega), w64 (n := k + 1 + 1 + 1 + 1) (by omega) (by omega), w64 (n := k + 1 + 1 + 1 + 1 + 1) (by omega) (by omega),
   w64 (n := k + 1 + 1 + 1 + 1 + 1 + 1) (by omega) (by omega), w64 (n := i + 1) (by omega) (by omega), mt_eq (k + 1 + 1 + 1) (by omega) (by omega), if_pos h]
  simp only [Option.bind_some, rd_set_entry _ i _ h0, List.length_set, hz, List.set_set]
  rw [show k + 1 + 1 + 1 + 1 + 1 + 1 = k + 6 by omega]
  rfl
 ·rw [if_neg (by omega), if_neg h]

/-! #### eqChange -/
theorem eqChange_refl (a : Int) (b : ByteArray) (c d : Int) : laws_eqChange.f a b c d a b c d = some true := by unfold laws_eqChange.f; simp
theorem eqChangeS_refl (xs : List S106) (hx : xs.length ≤ 1000000000000) : laws_eqChangeS.fL xs xs = some true := by
 rw [laws_eqChangeS.fL_eq, if_pos rfl]
 refine refl_loop0 xs.length (fun i => laws_eqChangeS.l0L xs xs i) (fun i h0 h1 => ?_)
 rw [laws_eqChangeS.l0L_eq]
 by_cases h : i < (xs.length : Int)
 ·rw [if_pos h, if_pos h0, if_pos h, eqChange_refl, Option.bind_some, if_pos rfl, w64 (by omega) (by omega), if_pos h]
 ·rw [if_neg h, if_neg h]

/-! #### markChange -/
noncomputable def elChange (k : Int) : S106 := ⟨k, mt (k + 1), k + 1 + 1, k + 1 + 1 + 1⟩
theorem rd_set_change (xs : List S106) (i : Int) (y : S106) (h0 : 0 ≤ i) (h : i < xs.length) : rd_T106 (xs.set i.toNat y) i = y := by
 unfold rd_T106
 rw [List.getD_eq_getElem?_getD, List.getElem?_set_self (by omega)]; rfl
theorem markChangeS_f (xs : List S106) (k : Int) (hx : xs.length ≤ 1000000000) (hk : 0 ≤ k) (hk2 : k ≤ 100000000000) : laws_markChangeS.fL xs k = some (k + 4 * xs.length, marks elChange 4 xs.length k) := by
 rw [laws_markChangeS.fL_eq]
 refine mark_loop0 elChange 4 (by omega) (by omega) xs hx k hk hk2 (fun zs k i => laws_markChangeS.l0L zs k i) (fun zs k i h0 h1 hl hk hk2 => ?_)
 rw [laws_markChangeS.l0L_eq]
 by_cases h : i < (xs.length : Int)
 ·have hz : i < (zs.length : Int) := by omega
  have hz2 : ∀ y, i < ((zs.set i.toNat y).length : Int) := fun y => by rw [List.length_set]; exact hz
  have hz3 : ∀ y z, i < (((zs.set i.toNat y).set i.toNat z).length : Int) := fun y z => by rw [List.length_set]; exact hz2 y
  rw [if_pos hz, if_pos h0, Option.bind_some, w64 (n := k + 1) (by omega) (by omega), mt_eq (k + 1) (by omega) (by omega), Option.bind_some, Option.bind_some, Option.bind_some, w64 (n := k + 1 + 1) (by omega) (by omega),
   w64 (n := k + 1 + 1 + 1) (by omega) (by omega), w64 (n := k + 1 + 1 + 1 + 1) (by omega) (by omega), w64 (n := i + 1) (by omega) (by omega), if_pos h]
  rw [rd_set_change ((zs.set i.toNat _).set i.toNat _) i _ h0 (hz3 _ _), rd_set_change (zs.set i.toNat _) i _ h0 (hz2 _), rd_set_change zs i _ h0 hz, List.set_set, List.set_set, List.set_set, show k + 1 + 1 + 1 + 1 = k + 4 by omega]
  rfl
 ·rw [if_neg (by omega), if_neg h]

/-! #### heldChange -/
theorem heldChangeS_f (n : Nat) (k : Int) (hn : n ≤ 1000000000) (hk : 0 ≤ k) (hk2 : k ≤ 100000000000) : laws_heldChangeS.fL (marks elChange 4 n k) k = some (k + 4 * n) := by
 have hm := marks_length elChange 4 n k
 rw [laws_heldChangeS.fL_eq]
 refine held_loop0 elChange z106 4 (by omega) (by omega) n hn k hk hk2 (fun k' i => laws_heldChangeS.l0L (marks elChange 4 n k) k' i) (fun k' i h0 h1 hk hk2 he => ?_)
 rw [laws_heldChangeS.l0L_eq, hm]
 by_cases h : i < (n : Int)
 ·have he := he h
  have hr : rd_T106 (marks elChange 4 n k) i = elChange k' := he
  rw [if_pos h, if_pos h0, hr, if_pos h]
  rw [if_pos (show (elChange k').f0 = k' from rfl), w64 (n := k' + 1) (by omega) (by omega), mt_eq (k' + 1) (by omega) (by omega), Option.bind_some, if_pos (show (elChange k').f1.toList = (mt (k' + 1)).toList from rfl),
   w64 (n := k' + 1 + 1) (by omega) (by omega), if_pos (show (elChange k').f2 = k' + 1 + 1 from rfl), w64 (n := k' + 1 + 1 + 1) (by omega) (by omega), if_pos (show (elChange k').f3 = k' + 1 + 1 + 1 from rfl),
   w64 (n := k' + 1 + 1 + 1 + 1) (by omega) (by omega), w64 (n := i + 1) (by omega) (by omega), show k' + 1 + 1 + 1 + 1 = k' + 4 by omega]
 ·rw [if_neg h, if_neg h]

end Go.Proofs.Ytcciackemicbbaa.Pure
