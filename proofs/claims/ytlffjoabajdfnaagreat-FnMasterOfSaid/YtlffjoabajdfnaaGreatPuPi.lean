/- Pairs put in and taken out: what a list is then. No condition. -/
import Derived.Test.YtlffjoabajdfnaaGreatPuPa
set_option linter.unusedVariables false
set_option linter.unusedSimpArgs false
namespace Go.Proofs.YtlffjoabajdfnaaGreat.Ev
open Go.Proofs.YtlffjoabajdfnaaGreat.Eng
open Go.RowKit (wrap64)
def allLt (A : List impl_Pair) (k : ByteArray) : Prop := ∀ y ∈ A, sLt y.Key k = true
def allGt (B : List impl_Pair) (k : ByteArray) : Prop := ∀ y ∈ B, sLt k y.Key = true
theorem pairsFrom_iff : ∀ (l : List impl_Pair) (p : Option ByteArray), pairsFrom p l = true ↔ (∀ y ∈ l, pairItem y = true ∧ above p y.Key = true) ∧ l.Pairwise (fun a b => sLt a.Key b.Key = true)
  | [], p => by simp [pairsFrom]
  | x :: l, p => by
    have ih := pairsFrom_iff l (some x.Key)
    rw [pairsFrom, Bool.and_eq_true, Bool.and_eq_true, ih, List.pairwise_cons]
    constructor
    · rintro ⟨⟨h1, h2⟩, h3, h4⟩
      refine ⟨fun y hy => ?_, fun y hy => (h3 y hy).2, h4⟩
      rcases List.mem_cons.1 hy with rfl | hy
      · exact ⟨h1, h2⟩
      · refine ⟨(h3 y hy).1, ?_⟩
        cases p with
        | none => rfl
        | some q => exact sLt_tr h2 (h3 y hy).2
    · rintro ⟨h1, h2, h3⟩
      have hx := h1 x List.mem_cons_self
      exact ⟨⟨hx.1, hx.2⟩, fun y hy => ⟨(h1 y (List.mem_cons_of_mem _ hy)).1, h2 y hy⟩, h3⟩
theorem pairsOk_iff (l : List impl_Pair) : pairsOk l = true ↔ l.length ≤ 48 ∧ (∀ y ∈ l, pairItem y = true) ∧ l.Pairwise (fun a b => sLt a.Key b.Key = true) := by
  unfold pairsOk
  rw [Bool.and_eq_true, decide_eq_true_eq, pairsFrom_iff]
  constructor
  · rintro ⟨h1, h2, h3⟩; exact ⟨h1, fun y hy => (h2 y hy).1, h3⟩
  · rintro ⟨h1, h2, h3⟩; exact ⟨h1, fun y hy => ⟨h2 y hy, rfl⟩, h3⟩
theorem place_app {k : ByteArray} {B : List impl_Pair} (h2 : ∀ y ∈ B, sLt y.Key k = false) : ∀ {A : List impl_Pair}, allLt A k → place k (A ++ B) = A.length
  | [], _ => by
    cases B with
    | nil => rfl
    | cons y B => simp only [List.nil_append, place]; rw [if_neg (by rw [h2 y List.mem_cons_self]; simp)]; rfl
  | x :: A, h1 => by
    simp only [List.cons_append, place]
    rw [if_pos (h1 x List.mem_cons_self), place_app h2 (fun y hy => h1 y (List.mem_cons_of_mem _ hy))]; rfl
theorem place_hit {A B : List impl_Pair} {k : ByteArray} {v : Int} (h1 : allLt A k) (h2 : allGt B k) : place k (A ++ ⟨k, v⟩ :: B) = A.length :=
  place_app (fun y hy => by
    rcases List.mem_cons.1 hy with rfl | hy
    · exact sLt_irrefl _
    · exact sLt_asym (h2 y hy)) h1
theorem place_no {A B : List impl_Pair} {k : ByteArray} (h1 : allLt A k) (h2 : allGt B k) : place k (A ++ B) = A.length := place_app (fun y hy => sLt_asym (h2 y hy)) h1
theorem rd_app (A B : List impl_Pair) (y : impl_Pair) : rdAt (A ++ y :: B) (Int.toNat (A.length : Int)) z_impl_Pair = y := by
  unfold rdAt
  rw [Int.toNat_natCast, List.getD_eq_getElem?_getD, List.getElem?_append_right (Nat.le_refl _)]; simp
theorem hit_app {A B : List impl_Pair} {k : ByteArray} {v : Int} (h1 : allLt A k) (h2 : allGt B k) : hit k (A ++ ⟨k, v⟩ :: B) = true := by
  unfold hit; rw [place_hit h1 h2, rd_app]; simp
theorem nohit_app {A B : List impl_Pair} {k : ByteArray} (h1 : allLt A k) (h2 : allGt B k) : hit k (A ++ B) = false := by
  unfold hit; rw [place_no h1 h2]
  cases B with
  | nil => simp
  | cons y B =>
    rw [rd_app, decide_eq_false]
    rintro ⟨_, e⟩
    have := h2 y List.mem_cons_self
    rw [e, sLt_irrefl] at this; cases this
theorem pairs_split (k : ByteArray) : ∀ l : List impl_Pair, l.Pairwise (fun a b => sLt a.Key b.Key = true) → (∃ A B v, l = A ++ ⟨k, v⟩ :: B ∧ allLt A k ∧ allGt B k) ∨ (∃ A B, l = A ++ B ∧ allLt A k ∧ allGt B k)
  | [], _ => .inr ⟨[], [], rfl, (fun y hy => by cases hy), (fun y hy => by cases hy)⟩
  | x :: l, h => by
    rw [List.pairwise_cons] at h
    by_cases e : sLt x.Key k = true
    · have hA : ∀ A : List impl_Pair, allLt A k → allLt (x :: A) k := fun A hA y hy => by
        rcases List.mem_cons.1 hy with rfl | hy
        · exact e
        · exact hA y hy
      rcases pairs_split k l h.2 with ⟨A, B, v, rfl, h1, h2⟩ | ⟨A, B, rfl, h1, h2⟩
      · exact .inl ⟨x :: A, B, v, rfl, hA A h1, h2⟩
      · exact .inr ⟨x :: A, B, rfl, hA A h1, h2⟩
    · by_cases e2 : sLt k x.Key = true
      · refine .inr ⟨[], x :: l, rfl, (fun y hy => by cases hy), fun y hy => ?_⟩
        rcases List.mem_cons.1 hy with rfl | hy
        · exact e2
        · exact sLt_tr e2 (h.1 y hy)
      · have ek := sLt_total (Bool.eq_false_iff.2 e) (Bool.eq_false_iff.2 e2)
        subst ek
        exact .inl ⟨[], l, x.Value, rfl, (fun y hy => by cases hy), h.1⟩
theorem pairGet_hit {A B : List impl_Pair} {k : ByteArray} {v : Int} (h : pairsOk (A ++ ⟨k, v⟩ :: B) = true) (h1 : allLt A k) (h2 : allGt B k) : pairGet (A ++ ⟨k, v⟩ :: B) k = v := by
  unfold pairGet; rw [if_pos h, if_pos (hit_app h1 h2), place_hit h1 h2, rd_app]
theorem pairGet_no {A B : List impl_Pair} {k : ByteArray} (h1 : allLt A k) (h2 : allGt B k) : pairGet (A ++ B) k = -1 := by
  unfold pairGet
  rw [nohit_app h1 h2]; split <;> simp
theorem pairDrop_hit {A B : List impl_Pair} {k : ByteArray} {v : Int} (h : pairsOk (A ++ ⟨k, v⟩ :: B) = true) (h1 : allLt A k) (h2 : allGt B k) : pairDrop (A ++ ⟨k, v⟩ :: B) k = (A ++ B, true) := by
  unfold pairDrop; rw [if_pos h, if_pos (hit_app h1 h2), place_hit h1 h2]; simp
theorem pairDrop_no {A B : List impl_Pair} {k : ByteArray} (h : pairsOk (A ++ B) = true) (h1 : allLt A k) (h2 : allGt B k) : pairDrop (A ++ B) k = (A ++ B, false) := by
  unfold pairDrop; rw [if_pos h, if_neg (by rw [nohit_app h1 h2]; simp)]
theorem pairPut_hit {A B : List impl_Pair} {k : ByteArray} {v u : Int} (h : pairsOk (A ++ ⟨k, v⟩ :: B) = true) (hk : keyOk k = true) (hu : 0 ≤ u ∧ u ≤ 999) (h1 : allLt A k) (h2 : allGt B k) : pairPut (A ++ ⟨k, v⟩ :: B) k u = (A ++ ⟨k, u⟩ :: B, true) := by
  unfold pairPut; rw [if_pos ⟨h, hk, hu⟩, if_pos (hit_app h1 h2), place_hit h1 h2]; simp
theorem pairPut_no {A B : List impl_Pair} {k : ByteArray} {u : Int} (h : pairsOk (A ++ B) = true) (hk : keyOk k = true) (hu : 0 ≤ u ∧ u ≤ 999) (h1 : allLt A k) (h2 : allGt B k) : pairPut (A ++ B) k u = if 48 ≤ (A ++ B).length then (A ++ B, false) else (A ++ ⟨k, u⟩ :: B, true) := by
  unfold pairPut; rw [if_pos ⟨h, hk, hu⟩, if_neg (by rw [nohit_app h1 h2]; simp), place_no h1 h2]; simp
theorem pairItem_mk {k : ByteArray} {v : Int} (hk : keyOk k = true) (hv : 0 ≤ v ∧ v ≤ 999) : pairItem ⟨k, v⟩ = true := by
  unfold pairItem; rw [Bool.and_eq_true, decide_eq_true_eq]; exact ⟨hk, hv⟩
theorem pairItem_of {A B : List impl_Pair} {k : ByteArray} {v : Int} (h : pairsOk (A ++ ⟨k, v⟩ :: B) = true) : keyOk k = true ∧ 0 ≤ v ∧ v ≤ 999 := by
  have := ((pairsOk_iff _).1 h).2.1 ⟨k, v⟩ (by simp)
  unfold pairItem at this; rw [Bool.and_eq_true, decide_eq_true_eq] at this; exact this
theorem pairsOk_ins {A B : List impl_Pair} {k : ByteArray} {v : Int} (h : pairsOk (A ++ B) = true) (hk : keyOk k = true) (hv : 0 ≤ v ∧ v ≤ 999) (h1 : allLt A k) (h2 : allGt B k) (hl : (A ++ B).length < 48) : pairsOk (A ++ ⟨k, v⟩ :: B) = true := by
  rw [pairsOk_iff] at h ⊢
  obtain ⟨_, b, c⟩ := h
  rw [List.pairwise_append] at c ⊢
  refine ⟨by simp at hl ⊢; omega, fun y hy => ?_, c.1, List.pairwise_cons.2 ⟨h2, c.2.1⟩, fun x hx y hy => ?_⟩
  · rcases List.mem_append.1 hy with hy | hy
    · exact b y (List.mem_append_left _ hy)
    · rcases List.mem_cons.1 hy with rfl | hy
      · exact pairItem_mk hk hv
      · exact b y (List.mem_append_right _ hy)
  · rcases List.mem_cons.1 hy with rfl | hy
    · exact h1 x hx
    · exact c.2.2 x hx y hy
theorem pairsOk_del {A B : List impl_Pair} {y : impl_Pair} (h : pairsOk (A ++ y :: B) = true) : pairsOk (A ++ B) = true := by
  rw [pairsOk_iff] at h ⊢
  obtain ⟨a, b, c⟩ := h
  rw [List.pairwise_append, List.pairwise_cons] at c
  refine ⟨by simp at a ⊢; omega, fun x hx => b x ?_, List.pairwise_append.2 ⟨c.1, c.2.1.2, fun x hx z hz => c.2.2 x hx z (List.mem_cons_of_mem _ hz)⟩⟩
  rcases List.mem_append.1 hx with hx | hx
  · exact List.mem_append_left _ hx
  · exact List.mem_append_right _ (List.mem_cons_of_mem _ hx)
theorem pairsOk_set {A B : List impl_Pair} {k : ByteArray} {v u : Int} (h : pairsOk (A ++ ⟨k, v⟩ :: B) = true) (hu : 0 ≤ u ∧ u ≤ 999) (h1 : allLt A k) (h2 : allGt B k) : pairsOk (A ++ ⟨k, u⟩ :: B) = true :=
  pairsOk_ins (pairsOk_del h) (pairItem_of h).1 hu h1 h2 (by have := pairsOk_le h; simp at this ⊢; omega)
end Go.Proofs.YtlffjoabajdfnaaGreat.Ev
