/- The laws mark lists: that returns. Printed by genmarks.py. No condition. -/
import Derived.Test.YtpdmjnejnplhnaaGreatPuMt
import Derived.Test.YtpdmjnejnplhnaaGreatPuLx
set_option linter.unusedVariables false
set_option linter.unusedSimpArgs false
namespace Go.Proofs.YtpdmjnejnplhnaaGreat.Ev
open Go.Proofs.YtpdmjnejnplhnaaGreat.Eng
open Go.RowKit (wrap64)

theorem rd_in {α : Type} {d : α} {s : List α} {i : Int} (h0 : 0 ≤ i) (h : i < s.length) : rdAt s (Int.toNat i) d ∈ s.drop i.toNat := by
  rw [rd_eq' (by omega)]
  exact List.mem_drop_iff_getElem.2 ⟨0, by omega, by simp⟩
theorem drop_mem {α : Type} {s : List α} {i : Int} {x : α} (h0 : 0 ≤ i) (h : x ∈ s.drop (i + 1).toNat) : x ∈ s.drop i.toNat := by
  rw [show (i + 1).toNat = i.toNat + 1 by omega, ← List.drop_drop] at h
  exact List.mem_of_mem_drop h
theorem drop_set {α : Type} (s : List α) (i : Int) (y : α) (h : 0 ≤ i) : (List.set s (Int.toNat i) y).drop (i + 1).toNat = s.drop (i + 1).toNat := List.drop_set_of_lt (by omega)
theorem laws_markSessionS_9_h {Q : _ → Prop} {B : Int} {n : Nat} {d : List impl_Session} {i : Int} (L : ∀ (k : Int) (s : List impl_Session), s.length = n → s.drop (i + 1).toNat = d → 0 ≤ k → k ≤ B → Tot (laws_markSessionS_2 k (i + 1) s) Q)
    (k : Int) (s : List impl_Session) (hi0 : 0 ≤ i) (hi : i < s.length) (hn : s.length = n) (hd : s.drop (i + 1).toNat = d) (hnn : n ≤ 1048576)  (hk0 : 0 ≤ k) (hkB : k + (1) ≤ B) (hB : B ≤ 4611686018427387904) : Tot (laws_markSessionS_9 k i s) Q := by
  have hni : Int.toNat i < s.length := by omega
  rw [laws_markSessionS_9_eq]
  have ex11 : wrap64 (k + 1) = k + 1 := w64 (by omega) (by omega)
  try simp only [cond_dec, if_pos hi0, if_pos hi, List.length_set, List.set_set, rd_set _ _ _ hni, ex11]
  rw [w64 (n := i + 1) (by omega) (by omega)]
  exact L _ _ hn hd (by omega) (by omega)
theorem laws_markSessionS_7_h {Q : _ → Prop} {B : Int} {n : Nat} {d : List impl_Session} {i : Int} (L : ∀ (k : Int) (s : List impl_Session), s.length = n → s.drop (i + 1).toNat = d → 0 ≤ k → k ≤ B → Tot (laws_markSessionS_2 k (i + 1) s) Q)
    (k : Int) (s : List impl_Session) (hi0 : 0 ≤ i) (hi : i < s.length) (hn : s.length = n) (hd : s.drop (i + 1).toNat = d) (hnn : n ≤ 1048576)  (hk0 : 0 ≤ k) (hkB : k + (2) ≤ B) (hB : B ≤ 4611686018427387904) : Tot (laws_markSessionS_7 k i s) Q := by
  have hni : Int.toNat i < s.length := by omega
  rw [laws_markSessionS_7_eq]
  have ex11 : wrap64 (k + 1) = k + 1 := w64 (by omega) (by omega)
  try simp only [cond_dec, if_pos hi0, if_pos hi, List.length_set, List.set_set, rd_set _ _ _ hni, ex11]
  exact laws_markSessionS_9_h L (k + 1) _ hi0 (by simp only [List.length_set] <;> exact hi) (by simp only [List.length_set] <;> exact hn) (by rw [drop_set _ _ _ hi0] <;> exact hd) hnn  (by omega) (by first | omega | (rw [rd_set _ _ _ hni]; dsimp only; omega)) hB
theorem laws_markSessionS_5_h {Q : _ → Prop} {B : Int} {n : Nat} {d : List impl_Session} {i : Int} (L : ∀ (k : Int) (s : List impl_Session), s.length = n → s.drop (i + 1).toNat = d → 0 ≤ k → k ≤ B → Tot (laws_markSessionS_2 k (i + 1) s) Q)
    (k : Int) (s : List impl_Session) (hi0 : 0 ≤ i) (hi : i < s.length) (hn : s.length = n) (hd : s.drop (i + 1).toNat = d) (hnn : n ≤ 1048576)  (hk0 : 0 ≤ k) (hkB : k + (3) ≤ B) (hB : B ≤ 4611686018427387904) : Tot (laws_markSessionS_5 k i s) Q := by
  have hni : Int.toNat i < s.length := by omega
  rw [laws_markSessionS_5_eq]
  have ex11 : wrap64 (k + 1) = k + 1 := w64 (by omega) (by omega)
  try simp only [cond_dec, if_pos hi0, if_pos hi, List.length_set, List.set_set, rd_set _ _ _ hni, ex11]
  exact laws_markSessionS_7_h L (k + 1) _ hi0 (by simp only [List.length_set] <;> exact hi) (by simp only [List.length_set] <;> exact hn) (by rw [drop_set _ _ _ hi0] <;> exact hd) hnn  (by omega) (by first | omega | (rw [rd_set _ _ _ hni]; dsimp only; omega)) hB
theorem markSessionS_l (M : Int) (hM : M ≤ 4611686018427387904) : ∀ (j : Nat) (k i : Int) (s : List impl_Session), i + j = s.length → 0 ≤ i → s.length ≤ 1048576 → (∀ x ∈ s.drop i.toNat, (fun _ => True) x) → 0 ≤ k → k + j * 3 ≤ M → Tot (laws_markSessionS_2 k i s) (fun r => 0 ≤ r.1 ∧ r.1 ≤ M)
  | 0, k, i, s, hj, hi0, hnn, hp, hk0, hkM => by
    rw [laws_markSessionS_2_eq, cond_dec, if_neg (by omega)]
    exact Tot.val ⟨hk0, by show k ≤ M; omega⟩
  | j + 1, k, i, s, hj, hi0, hnn, hp, hk0, hkM => by
    have hi : i < s.length := by omega
    have hni : Int.toNat i < s.length := by omega
    have hn : s.length = s.length := rfl
    have hd : s.drop (i + 1).toNat = s.drop (i + 1).toNat := rfl
    have hB : M - (j : Int) * 3 ≤ 4611686018427387904 := by omega
    have hkB : k + 3 ≤ M - (j : Int) * 3 := by omega
    have L : ∀ (k2 : Int) (s2 : List impl_Session), s2.length = s.length → s2.drop (i + 1).toNat = s.drop (i + 1).toNat → 0 ≤ k2 → k2 ≤ M - (j : Int) * 3 → Tot (laws_markSessionS_2 k2 (i + 1) s2) (fun r => 0 ≤ r.1 ∧ r.1 ≤ M) := fun k2 s2 h1 h2 h3 h4 => markSessionS_l M hM j k2 (i + 1) s2 (by omega) (by omega) (by omega) (by rw [h2]; exact fun x hx => hp x (drop_mem hi0 hx)) h3 (by omega)
    rw [laws_markSessionS_2_eq]
    try simp only [cond_dec, if_pos hi0, if_pos hi, List.length_set, List.set_set, rd_set _ _ _ hni]
    exact laws_markSessionS_5_h L (k) _ hi0 (by simp only [List.length_set] <;> exact hi) (by simp only [List.length_set] <;> exact hn) (by rw [drop_set _ _ _ hi0] <;> exact hd) hnn  (by omega) (by first | omega | (rw [rd_set _ _ _ hni]; dsimp only; omega)) hB
theorem markSessionS_t (s : List impl_Session) (k : Int) (hs : SmL (fun _ => True) s) (h0 : 0 ≤ k) (h1 : k + 3 * s.length ≤ 4611686018427387904) : Tot (laws_markSessionS s k) (fun r => 0 ≤ r.1 ∧ r.1 ≤ k + 3 * s.length) := by
  have := hs.1
  rw [laws_markSessionS_eq]
  exact markSessionS_l (k + 3 * s.length) (by omega) s.length k 0 s (by omega) (by omega) hs.1 hs.2 h0 (by omega)

theorem laws_markPairS_7_h {Q : _ → Prop} {B : Int} {n : Nat} {d : List impl_Pair} {i : Int} (L : ∀ (k : Int) (s : List impl_Pair), s.length = n → s.drop (i + 1).toNat = d → 0 ≤ k → k ≤ B → Tot (laws_markPairS_2 k (i + 1) s) Q)
    (k : Int) (s : List impl_Pair) (hi0 : 0 ≤ i) (hi : i < s.length) (hn : s.length = n) (hd : s.drop (i + 1).toNat = d) (hnn : n ≤ 1048576)  (hk0 : 0 ≤ k) (hkB : k + (1) ≤ B) (hB : B ≤ 4611686018427387904) : Tot (laws_markPairS_7 k i s) Q := by
  have hni : Int.toNat i < s.length := by omega
  rw [laws_markPairS_7_eq]
  have ex11 : wrap64 (k + 1) = k + 1 := w64 (by omega) (by omega)
  try simp only [cond_dec, if_pos hi0, if_pos hi, List.length_set, List.set_set, rd_set _ _ _ hni, ex11]
  rw [w64 (n := i + 1) (by omega) (by omega)]
  exact L _ _ hn hd (by omega) (by omega)
theorem markPairS_l (M : Int) (hM : M ≤ 4611686018427387904) : ∀ (j : Nat) (k i : Int) (s : List impl_Pair), i + j = s.length → 0 ≤ i → s.length ≤ 1048576 → (∀ x ∈ s.drop i.toNat, (fun _ => True) x) → 0 ≤ k → k + j * 2 ≤ M → Tot (laws_markPairS_2 k i s) (fun r => 0 ≤ r.1 ∧ r.1 ≤ M)
  | 0, k, i, s, hj, hi0, hnn, hp, hk0, hkM => by
    rw [laws_markPairS_2_eq, cond_dec, if_neg (by omega)]
    exact Tot.val ⟨hk0, by show k ≤ M; omega⟩
  | j + 1, k, i, s, hj, hi0, hnn, hp, hk0, hkM => by
    have hi : i < s.length := by omega
    have hni : Int.toNat i < s.length := by omega
    have hn : s.length = s.length := rfl
    have hd : s.drop (i + 1).toNat = s.drop (i + 1).toNat := rfl
    have hB : M - (j : Int) * 2 ≤ 4611686018427387904 := by omega
    have hkB : k + 2 ≤ M - (j : Int) * 2 := by omega
    have L : ∀ (k2 : Int) (s2 : List impl_Pair), s2.length = s.length → s2.drop (i + 1).toNat = s.drop (i + 1).toNat → 0 ≤ k2 → k2 ≤ M - (j : Int) * 2 → Tot (laws_markPairS_2 k2 (i + 1) s2) (fun r => 0 ≤ r.1 ∧ r.1 ≤ M) := fun k2 s2 h1 h2 h3 h4 => markPairS_l M hM j k2 (i + 1) s2 (by omega) (by omega) (by omega) (by rw [h2]; exact fun x hx => hp x (drop_mem hi0 hx)) h3 (by omega)
    rw [laws_markPairS_2_eq]
    have ex11 : wrap64 (k + 1) = k + 1 := w64 (by omega) (by omega)
    try simp only [cond_dec, if_pos hi0, if_pos hi, List.length_set, List.set_set, rd_set _ _ _ hni, ex11]
    rw [mt_eq (k) (by omega) (by omega), Option.bind_some]
    try simp only [cond_dec, if_pos hi0, if_pos hi, List.length_set, List.set_set, rd_set _ _ _ hni]
    exact laws_markPairS_7_h L (k + 1) _ hi0 (by simp only [List.length_set] <;> exact hi) (by simp only [List.length_set] <;> exact hn) (by rw [drop_set _ _ _ hi0] <;> exact hd) hnn  (by omega) (by first | omega | (rw [rd_set _ _ _ hni]; dsimp only; omega)) hB
theorem markPairS_t (s : List impl_Pair) (k : Int) (hs : SmL (fun _ => True) s) (h0 : 0 ≤ k) (h1 : k + 2 * s.length ≤ 4611686018427387904) : Tot (laws_markPairS s k) (fun r => 0 ≤ r.1 ∧ r.1 ≤ k + 2 * s.length) := by
  have := hs.1
  rw [laws_markPairS_eq]
  exact markPairS_l (k + 2 * s.length) (by omega) s.length k 0 s (by omega) (by omega) hs.1 hs.2 h0 (by omega)

theorem laws_markAnswerS_17_h {Q : _ → Prop} {B : Int} {n : Nat} {d : List impl_Answer} {i : Int} (L : ∀ (k : Int) (s : List impl_Answer), s.length = n → s.drop (i + 1).toNat = d → 0 ≤ k → k ≤ B → Tot (laws_markAnswerS_2 k (i + 1) s) Q)
    (k : Int) (s : List impl_Answer) (hi0 : 0 ≤ i) (hi : i < s.length) (hn : s.length = n) (hd : s.drop (i + 1).toNat = d) (hnn : n ≤ 1048576)  (hk0 : 0 ≤ k) (hkB : k + (1) ≤ B) (hB : B ≤ 4611686018427387904) : Tot (laws_markAnswerS_17 k i s) Q := by
  have hni : Int.toNat i < s.length := by omega
  rw [laws_markAnswerS_17_eq]
  have ex11 : wrap64 (k + 1) = k + 1 := w64 (by omega) (by omega)
  try simp only [cond_dec, if_pos hi0, if_pos hi, List.length_set, List.set_set, rd_set _ _ _ hni, ex11]
  rw [w64 (n := i + 1) (by omega) (by omega)]
  exact L _ _ hn hd (by omega) (by omega)
theorem laws_markAnswerS_15_h {Q : _ → Prop} {B : Int} {n : Nat} {d : List impl_Answer} {i : Int} (L : ∀ (k : Int) (s : List impl_Answer), s.length = n → s.drop (i + 1).toNat = d → 0 ≤ k → k ≤ B → Tot (laws_markAnswerS_2 k (i + 1) s) Q)
    (k : Int) (s : List impl_Answer) (hi0 : 0 ≤ i) (hi : i < s.length) (hn : s.length = n) (hd : s.drop (i + 1).toNat = d) (hnn : n ≤ 1048576)  (hk0 : 0 ≤ k) (hkB : k + (2) ≤ B) (hB : B ≤ 4611686018427387904) : Tot (laws_markAnswerS_15 k i s) Q := by
  have hni : Int.toNat i < s.length := by omega
  rw [laws_markAnswerS_15_eq]
  have ex11 : wrap64 (k + 1) = k + 1 := w64 (by omega) (by omega)
  try simp only [cond_dec, if_pos hi0, if_pos hi, List.length_set, List.set_set, rd_set _ _ _ hni, ex11]
  exact laws_markAnswerS_17_h L (k + 1) _ hi0 (by simp only [List.length_set] <;> exact hi) (by simp only [List.length_set] <;> exact hn) (by rw [drop_set _ _ _ hi0] <;> exact hd) hnn  (by omega) (by first | omega | (rw [rd_set _ _ _ hni]; dsimp only; omega)) hB
theorem laws_markAnswerS_13_h {Q : _ → Prop} {B : Int} {n : Nat} {d : List impl_Answer} {i : Int} (L : ∀ (k : Int) (s : List impl_Answer), s.length = n → s.drop (i + 1).toNat = d → 0 ≤ k → k ≤ B → Tot (laws_markAnswerS_2 k (i + 1) s) Q)
    (k : Int) (s : List impl_Answer) (hi0 : 0 ≤ i) (hi : i < s.length) (hn : s.length = n) (hd : s.drop (i + 1).toNat = d) (hnn : n ≤ 1048576)  (hk0 : 0 ≤ k) (hkB : k + (3) ≤ B) (hB : B ≤ 4611686018427387904) : Tot (laws_markAnswerS_13 k i s) Q := by
  have hni : Int.toNat i < s.length := by omega
  rw [laws_markAnswerS_13_eq]
  have ex11 : wrap64 (k + 1) = k + 1 := w64 (by omega) (by omega)
  try simp only [cond_dec, if_pos hi0, if_pos hi, List.length_set, List.set_set, rd_set _ _ _ hni, ex11]
  exact laws_markAnswerS_15_h L (k + 1) _ hi0 (by simp only [List.length_set] <;> exact hi) (by simp only [List.length_set] <;> exact hn) (by rw [drop_set _ _ _ hi0] <;> exact hd) hnn  (by omega) (by first | omega | (rw [rd_set _ _ _ hni]; dsimp only; omega)) hB
theorem laws_markAnswerS_11_h {Q : _ → Prop} {B : Int} {n : Nat} {d : List impl_Answer} {i : Int} (L : ∀ (k : Int) (s : List impl_Answer), s.length = n → s.drop (i + 1).toNat = d → 0 ≤ k → k ≤ B → Tot (laws_markAnswerS_2 k (i + 1) s) Q)
    (k : Int) (s : List impl_Answer) (hi0 : 0 ≤ i) (hi : i < s.length) (hn : s.length = n) (hd : s.drop (i + 1).toNat = d) (hnn : n ≤ 1048576)  (hk0 : 0 ≤ k) (hkB : k + (4) ≤ B) (hB : B ≤ 4611686018427387904) : Tot (laws_markAnswerS_11 k i s) Q := by
  have hni : Int.toNat i < s.length := by omega
  rw [laws_markAnswerS_11_eq]
  have ex11 : wrap64 (k + 1) = k + 1 := w64 (by omega) (by omega)
  try simp only [cond_dec, if_pos hi0, if_pos hi, List.length_set, List.set_set, rd_set _ _ _ hni, ex11]
  exact laws_markAnswerS_13_h L (k + 1) _ hi0 (by simp only [List.length_set] <;> exact hi) (by simp only [List.length_set] <;> exact hn) (by rw [drop_set _ _ _ hi0] <;> exact hd) hnn  (by omega) (by first | omega | (rw [rd_set _ _ _ hni]; dsimp only; omega)) hB
theorem laws_markAnswerS_9_h {Q : _ → Prop} {B : Int} {n : Nat} {d : List impl_Answer} {i : Int} (L : ∀ (k : Int) (s : List impl_Answer), s.length = n → s.drop (i + 1).toNat = d → 0 ≤ k → k ≤ B → Tot (laws_markAnswerS_2 k (i + 1) s) Q)
    (k : Int) (s : List impl_Answer) (hi0 : 0 ≤ i) (hi : i < s.length) (hn : s.length = n) (hd : s.drop (i + 1).toNat = d) (hnn : n ≤ 1048576)  (hk0 : 0 ≤ k) (hkB : k + (5) ≤ B) (hB : B ≤ 4611686018427387904) : Tot (laws_markAnswerS_9 k i s) Q := by
  have hni : Int.toNat i < s.length := by omega
  rw [laws_markAnswerS_9_eq]
  have ex11 : wrap64 (k + 1) = k + 1 := w64 (by omega) (by omega)
  try simp only [cond_dec, if_pos hi0, if_pos hi, List.length_set, List.set_set, rd_set _ _ _ hni, ex11]
  rw [mt_eq (k + 1) (by omega) (by omega), Option.bind_some]
  try simp only [cond_dec, if_pos hi0, if_pos hi, List.length_set, List.set_set, rd_set _ _ _ hni]
  exact laws_markAnswerS_11_h L (k + 1) _ hi0 (by simp only [List.length_set] <;> exact hi) (by simp only [List.length_set] <;> exact hn) (by rw [drop_set _ _ _ hi0] <;> exact hd) hnn  (by omega) (by first | omega | (rw [rd_set _ _ _ hni]; dsimp only; omega)) hB
theorem laws_markAnswerS_7_h {Q : _ → Prop} {B : Int} {n : Nat} {d : List impl_Answer} {i : Int} (L : ∀ (k : Int) (s : List impl_Answer), s.length = n → s.drop (i + 1).toNat = d → 0 ≤ k → k ≤ B → Tot (laws_markAnswerS_2 k (i + 1) s) Q)
    (k : Int) (s : List impl_Answer) (hi0 : 0 ≤ i) (hi : i < s.length) (hn : s.length = n) (hd : s.drop (i + 1).toNat = d) (hnn : n ≤ 1048576)  (hk0 : 0 ≤ k) (hkB : k + (6) ≤ B) (hB : B ≤ 4611686018427387904) : Tot (laws_markAnswerS_7 k i s) Q := by
  have hni : Int.toNat i < s.length := by omega
  rw [laws_markAnswerS_7_eq]
  have ex11 : wrap64 (k + 1) = k + 1 := w64 (by omega) (by omega)
  try simp only [cond_dec, if_pos hi0, if_pos hi, List.length_set, List.set_set, rd_set _ _ _ hni, ex11]
  exact laws_markAnswerS_9_h L (k + 1) _ hi0 (by simp only [List.length_set] <;> exact hi) (by simp only [List.length_set] <;> exact hn) (by rw [drop_set _ _ _ hi0] <;> exact hd) hnn  (by omega) (by first | omega | (rw [rd_set _ _ _ hni]; dsimp only; omega)) hB
theorem laws_markAnswerS_5_h {Q : _ → Prop} {B : Int} {n : Nat} {d : List impl_Answer} {i : Int} (L : ∀ (k : Int) (s : List impl_Answer), s.length = n → s.drop (i + 1).toNat = d → 0 ≤ k → k ≤ B → Tot (laws_markAnswerS_2 k (i + 1) s) Q)
    (k : Int) (s : List impl_Answer) (hi0 : 0 ≤ i) (hi : i < s.length) (hn : s.length = n) (hd : s.drop (i + 1).toNat = d) (hnn : n ≤ 1048576)  (hk0 : 0 ≤ k) (hkB : k + (7) ≤ B) (hB : B ≤ 4611686018427387904) : Tot (laws_markAnswerS_5 k i s) Q := by
  have hni : Int.toNat i < s.length := by omega
  rw [laws_markAnswerS_5_eq]
  have ex11 : wrap64 (k + 1) = k + 1 := w64 (by omega) (by omega)
  try simp only [cond_dec, if_pos hi0, if_pos hi, List.length_set, List.set_set, rd_set _ _ _ hni, ex11]
  exact laws_markAnswerS_7_h L (k + 1) _ hi0 (by simp only [List.length_set] <;> exact hi) (by simp only [List.length_set] <;> exact hn) (by rw [drop_set _ _ _ hi0] <;> exact hd) hnn  (by omega) (by first | omega | (rw [rd_set _ _ _ hni]; dsimp only; omega)) hB
theorem markAnswerS_l (M : Int) (hM : M ≤ 4611686018427387904) : ∀ (j : Nat) (k i : Int) (s : List impl_Answer), i + j = s.length → 0 ≤ i → s.length ≤ 1048576 → (∀ x ∈ s.drop i.toNat, (fun _ => True) x) → 0 ≤ k → k + j * 7 ≤ M → Tot (laws_markAnswerS_2 k i s) (fun r => 0 ≤ r.1 ∧ r.1 ≤ M)
  | 0, k, i, s, hj, hi0, hnn, hp, hk0, hkM => by
    rw [laws_markAnswerS_2_eq, cond_dec, if_neg (by omega)]
    exact Tot.val ⟨hk0, by show k ≤ M; omega⟩
  | j + 1, k, i, s, hj, hi0, hnn, hp, hk0, hkM => by
    have hi : i < s.length := by omega
    have hni : Int.toNat i < s.length := by omega
    have hn : s.length = s.length := rfl
    have hd : s.drop (i + 1).toNat = s.drop (i + 1).toNat := rfl
    have hB : M - (j : Int) * 7 ≤ 4611686018427387904 := by omega
    have hkB : k + 7 ≤ M - (j : Int) * 7 := by omega
    have L : ∀ (k2 : Int) (s2 : List impl_Answer), s2.length = s.length → s2.drop (i + 1).toNat = s.drop (i + 1).toNat → 0 ≤ k2 → k2 ≤ M - (j : Int) * 7 → Tot (laws_markAnswerS_2 k2 (i + 1) s2) (fun r => 0 ≤ r.1 ∧ r.1 ≤ M) := fun k2 s2 h1 h2 h3 h4 => markAnswerS_l M hM j k2 (i + 1) s2 (by omega) (by omega) (by omega) (by rw [h2]; exact fun x hx => hp x (drop_mem hi0 hx)) h3 (by omega)
    rw [laws_markAnswerS_2_eq]
    try simp only [cond_dec, if_pos hi0, if_pos hi, List.length_set, List.set_set, rd_set _ _ _ hni]
    exact laws_markAnswerS_5_h L (k) _ hi0 (by simp only [List.length_set] <;> exact hi) (by simp only [List.length_set] <;> exact hn) (by rw [drop_set _ _ _ hi0] <;> exact hd) hnn  (by omega) (by first | omega | (rw [rd_set _ _ _ hni]; dsimp only; omega)) hB
theorem markAnswerS_t (s : List impl_Answer) (k : Int) (hs : SmL (fun _ => True) s) (h0 : 0 ≤ k) (h1 : k + 7 * s.length ≤ 4611686018427387904) : Tot (laws_markAnswerS s k) (fun r => 0 ≤ r.1 ∧ r.1 ≤ k + 7 * s.length) := by
  have := hs.1
  rw [laws_markAnswerS_eq]
  exact markAnswerS_l (k + 7 * s.length) (by omega) s.length k 0 s (by omega) (by omega) hs.1 hs.2 h0 (by omega)

theorem laws_markEntryS_15_h {Q : _ → Prop} {B : Int} {n : Nat} {d : List impl_Entry} {i : Int} (L : ∀ (k : Int) (s : List impl_Entry), s.length = n → s.drop (i + 1).toNat = d → 0 ≤ k → k ≤ B → Tot (laws_markEntryS_2 k (i + 1) s) Q)
    (k : Int) (s : List impl_Entry) (hi0 : 0 ≤ i) (hi : i < s.length) (hn : s.length = n) (hd : s.drop (i + 1).toNat = d) (hnn : n ≤ 1048576)  (hk0 : 0 ≤ k) (hkB : k + (1) ≤ B) (hB : B ≤ 4611686018427387904) : Tot (laws_markEntryS_15 k i s) Q := by
  have hni : Int.toNat i < s.length := by omega
  rw [laws_markEntryS_15_eq]
  have ex11 : wrap64 (k + 1) = k + 1 := w64 (by omega) (by omega)
  try simp only [cond_dec, if_pos hi0, if_pos hi, List.length_set, List.set_set, rd_set _ _ _ hni, ex11]
  rw [w64 (n := i + 1) (by omega) (by omega)]
  exact L _ _ hn hd (by omega) (by omega)
theorem laws_markEntryS_13_h {Q : _ → Prop} {B : Int} {n : Nat} {d : List impl_Entry} {i : Int} (L : ∀ (k : Int) (s : List impl_Entry), s.length = n → s.drop (i + 1).toNat = d → 0 ≤ k → k ≤ B → Tot (laws_markEntryS_2 k (i + 1) s) Q)
    (k : Int) (s : List impl_Entry) (hi0 : 0 ≤ i) (hi : i < s.length) (hn : s.length = n) (hd : s.drop (i + 1).toNat = d) (hnn : n ≤ 1048576)  (hk0 : 0 ≤ k) (hkB : k + (2) ≤ B) (hB : B ≤ 4611686018427387904) : Tot (laws_markEntryS_13 k i s) Q := by
  have hni : Int.toNat i < s.length := by omega
  rw [laws_markEntryS_13_eq]
  have ex11 : wrap64 (k + 1) = k + 1 := w64 (by omega) (by omega)
  try simp only [cond_dec, if_pos hi0, if_pos hi, List.length_set, List.set_set, rd_set _ _ _ hni, ex11]
  exact laws_markEntryS_15_h L (k + 1) _ hi0 (by simp only [List.length_set] <;> exact hi) (by simp only [List.length_set] <;> exact hn) (by rw [drop_set _ _ _ hi0] <;> exact hd) hnn  (by omega) (by first | omega | (rw [rd_set _ _ _ hni]; dsimp only; omega)) hB
theorem laws_markEntryS_11_h {Q : _ → Prop} {B : Int} {n : Nat} {d : List impl_Entry} {i : Int} (L : ∀ (k : Int) (s : List impl_Entry), s.length = n → s.drop (i + 1).toNat = d → 0 ≤ k → k ≤ B → Tot (laws_markEntryS_2 k (i + 1) s) Q)
    (k : Int) (s : List impl_Entry) (hi0 : 0 ≤ i) (hi : i < s.length) (hn : s.length = n) (hd : s.drop (i + 1).toNat = d) (hnn : n ≤ 1048576)  (hk0 : 0 ≤ k) (hkB : k + (3) ≤ B) (hB : B ≤ 4611686018427387904) : Tot (laws_markEntryS_11 k i s) Q := by
  have hni : Int.toNat i < s.length := by omega
  rw [laws_markEntryS_11_eq]
  have ex11 : wrap64 (k + 1) = k + 1 := w64 (by omega) (by omega)
  try simp only [cond_dec, if_pos hi0, if_pos hi, List.length_set, List.set_set, rd_set _ _ _ hni, ex11]
  exact laws_markEntryS_13_h L (k + 1) _ hi0 (by simp only [List.length_set] <;> exact hi) (by simp only [List.length_set] <;> exact hn) (by rw [drop_set _ _ _ hi0] <;> exact hd) hnn  (by omega) (by first | omega | (rw [rd_set _ _ _ hni]; dsimp only; omega)) hB
theorem laws_markEntryS_9_h {Q : _ → Prop} {B : Int} {n : Nat} {d : List impl_Entry} {i : Int} (L : ∀ (k : Int) (s : List impl_Entry), s.length = n → s.drop (i + 1).toNat = d → 0 ≤ k → k ≤ B → Tot (laws_markEntryS_2 k (i + 1) s) Q)
    (k : Int) (s : List impl_Entry) (hi0 : 0 ≤ i) (hi : i < s.length) (hn : s.length = n) (hd : s.drop (i + 1).toNat = d) (hnn : n ≤ 1048576)  (hk0 : 0 ≤ k) (hkB : k + (4) ≤ B) (hB : B ≤ 4611686018427387904) : Tot (laws_markEntryS_9 k i s) Q := by
  have hni : Int.toNat i < s.length := by omega
  rw [laws_markEntryS_9_eq]
  have ex11 : wrap64 (k + 1) = k + 1 := w64 (by omega) (by omega)
  try simp only [cond_dec, if_pos hi0, if_pos hi, List.length_set, List.set_set, rd_set _ _ _ hni, ex11]
  rw [mt_eq (k + 1) (by omega) (by omega), Option.bind_some]
  try simp only [cond_dec, if_pos hi0, if_pos hi, List.length_set, List.set_set, rd_set _ _ _ hni]
  exact laws_markEntryS_11_h L (k + 1) _ hi0 (by simp only [List.length_set] <;> exact hi) (by simp only [List.length_set] <;> exact hn) (by rw [drop_set _ _ _ hi0] <;> exact hd) hnn  (by omega) (by first | omega | (rw [rd_set _ _ _ hni]; dsimp only; omega)) hB
theorem laws_markEntryS_7_h {Q : _ → Prop} {B : Int} {n : Nat} {d : List impl_Entry} {i : Int} (L : ∀ (k : Int) (s : List impl_Entry), s.length = n → s.drop (i + 1).toNat = d → 0 ≤ k → k ≤ B → Tot (laws_markEntryS_2 k (i + 1) s) Q)
    (k : Int) (s : List impl_Entry) (hi0 : 0 ≤ i) (hi : i < s.length) (hn : s.length = n) (hd : s.drop (i + 1).toNat = d) (hnn : n ≤ 1048576)  (hk0 : 0 ≤ k) (hkB : k + (5) ≤ B) (hB : B ≤ 4611686018427387904) : Tot (laws_markEntryS_7 k i s) Q := by
  have hni : Int.toNat i < s.length := by omega
  rw [laws_markEntryS_7_eq]
  have ex11 : wrap64 (k + 1) = k + 1 := w64 (by omega) (by omega)
  try simp only [cond_dec, if_pos hi0, if_pos hi, List.length_set, List.set_set, rd_set _ _ _ hni, ex11]
  exact laws_markEntryS_9_h L (k + 1) _ hi0 (by simp only [List.length_set] <;> exact hi) (by simp only [List.length_set] <;> exact hn) (by rw [drop_set _ _ _ hi0] <;> exact hd) hnn  (by omega) (by first | omega | (rw [rd_set _ _ _ hni]; dsimp only; omega)) hB
theorem laws_markEntryS_5_h {Q : _ → Prop} {B : Int} {n : Nat} {d : List impl_Entry} {i : Int} (L : ∀ (k : Int) (s : List impl_Entry), s.length = n → s.drop (i + 1).toNat = d → 0 ≤ k → k ≤ B → Tot (laws_markEntryS_2 k (i + 1) s) Q)
    (k : Int) (s : List impl_Entry) (hi0 : 0 ≤ i) (hi : i < s.length) (hn : s.length = n) (hd : s.drop (i + 1).toNat = d) (hnn : n ≤ 1048576)  (hk0 : 0 ≤ k) (hkB : k + (6) ≤ B) (hB : B ≤ 4611686018427387904) : Tot (laws_markEntryS_5 k i s) Q := by
  have hni : Int.toNat i < s.length := by omega
  rw [laws_markEntryS_5_eq]
  have ex11 : wrap64 (k + 1) = k + 1 := w64 (by omega) (by omega)
  try simp only [cond_dec, if_pos hi0, if_pos hi, List.length_set, List.set_set, rd_set _ _ _ hni, ex11]
  exact laws_markEntryS_7_h L (k + 1) _ hi0 (by simp only [List.length_set] <;> exact hi) (by simp only [List.length_set] <;> exact hn) (by rw [drop_set _ _ _ hi0] <;> exact hd) hnn  (by omega) (by first | omega | (rw [rd_set _ _ _ hni]; dsimp only; omega)) hB
theorem markEntryS_l (M : Int) (hM : M ≤ 4611686018427387904) : ∀ (j : Nat) (k i : Int) (s : List impl_Entry), i + j = s.length → 0 ≤ i → s.length ≤ 1048576 → (∀ x ∈ s.drop i.toNat, (fun _ => True) x) → 0 ≤ k → k + j * 6 ≤ M → Tot (laws_markEntryS_2 k i s) (fun r => 0 ≤ r.1 ∧ r.1 ≤ M)
  | 0, k, i, s, hj, hi0, hnn, hp, hk0, hkM => by
    rw [laws_markEntryS_2_eq, cond_dec, if_neg (by omega)]
    exact Tot.val ⟨hk0, by show k ≤ M; omega⟩
  | j + 1, k, i, s, hj, hi0, hnn, hp, hk0, hkM => by
    have hi : i < s.length := by omega
    have hni : Int.toNat i < s.length := by omega
    have hn : s.length = s.length := rfl
    have hd : s.drop (i + 1).toNat = s.drop (i + 1).toNat := rfl
    have hB : M - (j : Int) * 6 ≤ 4611686018427387904 := by omega
    have hkB : k + 6 ≤ M - (j : Int) * 6 := by omega
    have L : ∀ (k2 : Int) (s2 : List impl_Entry), s2.length = s.length → s2.drop (i + 1).toNat = s.drop (i + 1).toNat → 0 ≤ k2 → k2 ≤ M - (j : Int) * 6 → Tot (laws_markEntryS_2 k2 (i + 1) s2) (fun r => 0 ≤ r.1 ∧ r.1 ≤ M) := fun k2 s2 h1 h2 h3 h4 => markEntryS_l M hM j k2 (i + 1) s2 (by omega) (by omega) (by omega) (by rw [h2]; exact fun x hx => hp x (drop_mem hi0 hx)) h3 (by omega)
    rw [laws_markEntryS_2_eq]
    try simp only [cond_dec, if_pos hi0, if_pos hi, List.length_set, List.set_set, rd_set _ _ _ hni]
    exact laws_markEntryS_5_h L (k) _ hi0 (by simp only [List.length_set] <;> exact hi) (by simp only [List.length_set] <;> exact hn) (by rw [drop_set _ _ _ hi0] <;> exact hd) hnn  (by omega) (by first | omega | (rw [rd_set _ _ _ hni]; dsimp only; omega)) hB
theorem markEntryS_t (s : List impl_Entry) (k : Int) (hs : SmL (fun _ => True) s) (h0 : 0 ≤ k) (h1 : k + 6 * s.length ≤ 4611686018427387904) : Tot (laws_markEntryS s k) (fun r => 0 ≤ r.1 ∧ r.1 ≤ k + 6 * s.length) := by
  have := hs.1
  rw [laws_markEntryS_eq]
  exact markEntryS_l (k + 6 * s.length) (by omega) s.length k 0 s (by omega) (by omega) hs.1 hs.2 h0 (by omega)

theorem markIntS_l (M : Int) (hM : M ≤ 4611686018427387904) : ∀ (j : Nat) (k i : Int) (s : List Int), i + j = s.length → 0 ≤ i → s.length ≤ 1048576 → (∀ x ∈ s.drop i.toNat, (fun _ => True) x) → 0 ≤ k → k + j * 1 ≤ M → Tot (laws_markIntS_2 k i s) (fun r => 0 ≤ r.1 ∧ r.1 ≤ M)
  | 0, k, i, s, hj, hi0, hnn, hp, hk0, hkM => by
    rw [laws_markIntS_2_eq, cond_dec, if_neg (by omega)]
    exact Tot.val ⟨hk0, by show k ≤ M; omega⟩
  | j + 1, k, i, s, hj, hi0, hnn, hp, hk0, hkM => by
    have hi : i < s.length := by omega
    have hni : Int.toNat i < s.length := by omega
    have hn : s.length = s.length := rfl
    have hd : s.drop (i + 1).toNat = s.drop (i + 1).toNat := rfl
    have hB : M - (j : Int) * 1 ≤ 4611686018427387904 := by omega
    have hkB : k + 1 ≤ M - (j : Int) * 1 := by omega
    have L : ∀ (k2 : Int) (s2 : List Int), s2.length = s.length → s2.drop (i + 1).toNat = s.drop (i + 1).toNat → 0 ≤ k2 → k2 ≤ M - (j : Int) * 1 → Tot (laws_markIntS_2 k2 (i + 1) s2) (fun r => 0 ≤ r.1 ∧ r.1 ≤ M) := fun k2 s2 h1 h2 h3 h4 => markIntS_l M hM j k2 (i + 1) s2 (by omega) (by omega) (by omega) (by rw [h2]; exact fun x hx => hp x (drop_mem hi0 hx)) h3 (by omega)
    rw [laws_markIntS_2_eq]
    have ex11 : wrap64 (k + 1) = k + 1 := w64 (by omega) (by omega)
    try simp only [cond_dec, if_pos hi0, if_pos hi, List.length_set, List.set_set, rd_set _ _ _ hni, ex11]
    rw [w64 (n := i + 1) (by omega) (by omega)]
    exact L _ _ (by simp only [List.length_set] <;> exact hn) (by rw [drop_set _ _ _ hi0] <;> exact hd) (by omega) (by omega)
theorem markIntS_t (s : List Int) (k : Int) (hs : SmL (fun _ => True) s) (h0 : 0 ≤ k) (h1 : k + 1 * s.length ≤ 4611686018427387904) : Tot (laws_markIntS s k) (fun r => 0 ≤ r.1 ∧ r.1 ≤ k + 1 * s.length) := by
  have := hs.1
  rw [laws_markIntS_eq]
  exact markIntS_l (k + 1 * s.length) (by omega) s.length k 0 s (by omega) (by omega) hs.1 hs.2 h0 (by omega)

theorem laws_markMessageS_3_h {Q : _ → Prop} {B : Int} {n : Nat} {d : List impl_Message} {i : Int} (L : ∀ (k : Int) (s : List impl_Message), s.length = n → s.drop (i + 1).toNat = d → 0 ≤ k → k ≤ B → Tot (laws_markMessageS_2 k (i + 1) s) Q)
    (k : Int) (s : List impl_Message) (hi0 : 0 ≤ i) (hi : i < s.length) (hn : s.length = n) (hd : s.drop (i + 1).toNat = d) (hnn : n ≤ 1048576)  (hk0 : 0 ≤ k) (hkB : k + (0) ≤ B) (hB : B ≤ 4611686018427387904) : Tot (laws_markMessageS_3 k i s) Q := by
  have hni : Int.toNat i < s.length := by omega
  rw [laws_markMessageS_3_eq]
  try simp only [cond_dec, if_pos hi0, if_pos hi, List.length_set, List.set_set, rd_set _ _ _ hni]
  rw [w64 (n := i + 1) (by omega) (by omega)]
  exact L _ _ hn hd (by omega) (by omega)
theorem laws_markMessageS_14_h {Q : _ → Prop} {B : Int} {n : Nat} {d : List impl_Message} {i : Int} (L : ∀ (k : Int) (s : List impl_Message), s.length = n → s.drop (i + 1).toNat = d → 0 ≤ k → k ≤ B → Tot (laws_markMessageS_2 k (i + 1) s) Q)
    (k : Int) (s : List impl_Message) (hi0 : 0 ≤ i) (hi : i < s.length) (hn : s.length = n) (hd : s.drop (i + 1).toNat = d) (hnn : n ≤ 1048576) (pLog : SmL (fun _ => True) (rdAt s (Int.toNat i) z_impl_Message).Log) (hk0 : 0 ≤ k) (hkB : k + (6291457) ≤ B) (hB : B ≤ 4611686018427387904) : Tot (laws_markMessageS_14 k i s) Q := by
  have hni : Int.toNat i < s.length := by omega
  rw [laws_markMessageS_14_eq]
  have ex11 : wrap64 (k + 1) = k + 1 := w64 (by omega) (by omega)
  try simp only [cond_dec, if_pos hi0, if_pos hi, List.length_set, List.set_set, rd_set _ _ _ hni, ex11]
  have lr1 := pLog.1
  refine (markEntryS_t _ (k + 1) pLog (by omega) (by omega)).bind fun r1 hr1 => ?_
  obtain ⟨hr1a, hr1b⟩ := hr1
  try simp only [cond_dec, if_pos hi0, if_pos hi, List.length_set, List.set_set, rd_set _ _ _ hni, ex11]
  exact laws_markMessageS_3_h L (r1.1) _ hi0 (by simp only [List.length_set] <;> exact hi) (by simp only [List.length_set] <;> exact hn) (by rw [drop_set _ _ _ hi0] <;> exact hd) hnn  (by omega) (by first | omega | (rw [rd_set _ _ _ hni]; dsimp only; omega)) hB
theorem laws_markMessageS_13_h {Q : _ → Prop} {B : Int} {n : Nat} {d : List impl_Message} {i : Int} (L : ∀ (k : Int) (s : List impl_Message), s.length = n → s.drop (i + 1).toNat = d → 0 ≤ k → k ≤ B → Tot (laws_markMessageS_2 k (i + 1) s) Q)
    (k : Int) (s : List impl_Message) (hi0 : 0 ≤ i) (hi : i < s.length) (hn : s.length = n) (hd : s.drop (i + 1).toNat = d) (hnn : n ≤ 1048576) (pLog : SmL (fun _ => True) (rdAt s (Int.toNat i) z_impl_Message).Log) (hk0 : 0 ≤ k) (hkB : k + (6291457) ≤ B) (hB : B ≤ 4611686018427387904) : Tot (laws_markMessageS_13 k i s) Q := by
  have hni : Int.toNat i < s.length := by omega
  rw [laws_markMessageS_13_eq]
  try simp only [cond_dec, if_pos hi0, if_pos hi, List.length_set, List.set_set, rd_set _ _ _ hni]
  exact laws_markMessageS_14_h L (k) _ hi0 (by simp only [List.length_set] <;> exact hi) (by simp only [List.length_set] <;> exact hn) (by rw [drop_set _ _ _ hi0] <;> exact hd) hnn (by rw [rd_set _ _ _ hni]; exact pLog) (by omega) (by first | omega | (rw [rd_set _ _ _ hni]; dsimp only; omega)) hB
theorem laws_markMessageS_11_h {Q : _ → Prop} {B : Int} {n : Nat} {d : List impl_Message} {i : Int} (L : ∀ (k : Int) (s : List impl_Message), s.length = n → s.drop (i + 1).toNat = d → 0 ≤ k → k ≤ B → Tot (laws_markMessageS_2 k (i + 1) s) Q)
    (k : Int) (s : List impl_Message) (hi0 : 0 ≤ i) (hi : i < s.length) (hn : s.length = n) (hd : s.drop (i + 1).toNat = d) (hnn : n ≤ 1048576) (pConfMembers : SmL (fun _ => True) (rdAt s (Int.toNat i) z_impl_Message).Conf.Members) (pLog : SmL (fun _ => True) (rdAt s (Int.toNat i) z_impl_Message).Log) (hk0 : 0 ≤ k) (hkB : k + (7340034) ≤ B) (hB : B ≤ 4611686018427387904) : Tot (laws_markMessageS_11 k i s) Q := by
  have hni : Int.toNat i < s.length := by omega
  rw [laws_markMessageS_11_eq]
  have ex11 : wrap64 (k + 1) = k + 1 := w64 (by omega) (by omega)
  try simp only [cond_dec, if_pos hi0, if_pos hi, List.length_set, List.set_set, rd_set _ _ _ hni, ex11]
  have lr1 := pConfMembers.1
  refine (markIntS_t _ (k + 1) pConfMembers (by omega) (by omega)).bind fun r1 hr1 => ?_
  obtain ⟨hr1a, hr1b⟩ := hr1
  try simp only [cond_dec, if_pos hi0, if_pos hi, List.length_set, List.set_set, rd_set _ _ _ hni, ex11]
  exact laws_markMessageS_13_h L (r1.1) _ hi0 (by simp only [List.length_set] <;> exact hi) (by simp only [List.length_set] <;> exact hn) (by rw [drop_set _ _ _ hi0] <;> exact hd) hnn (by rw [rd_set _ _ _ hni]; exact pLog) (by omega) (by first | omega | (rw [rd_set _ _ _ hni]; dsimp only; omega)) hB
theorem laws_markMessageS_9_h {Q : _ → Prop} {B : Int} {n : Nat} {d : List impl_Message} {i : Int} (L : ∀ (k : Int) (s : List impl_Message), s.length = n → s.drop (i + 1).toNat = d → 0 ≤ k → k ≤ B → Tot (laws_markMessageS_2 k (i + 1) s) Q)
    (k : Int) (s : List impl_Message) (hi0 : 0 ≤ i) (hi : i < s.length) (hn : s.length = n) (hd : s.drop (i + 1).toNat = d) (hnn : n ≤ 1048576) (pConfMembers : SmL (fun _ => True) (rdAt s (Int.toNat i) z_impl_Message).Conf.Members) (pLog : SmL (fun _ => True) (rdAt s (Int.toNat i) z_impl_Message).Log) (hk0 : 0 ≤ k) (hkB : k + (7340035) ≤ B) (hB : B ≤ 4611686018427387904) : Tot (laws_markMessageS_9 k i s) Q := by
  have hni : Int.toNat i < s.length := by omega
  rw [laws_markMessageS_9_eq]
  have ex11 : wrap64 (k + 1) = k + 1 := w64 (by omega) (by omega)
  try simp only [cond_dec, if_pos hi0, if_pos hi, List.length_set, List.set_set, rd_set _ _ _ hni, ex11]
  exact laws_markMessageS_11_h L (k + 1) _ hi0 (by simp only [List.length_set] <;> exact hi) (by simp only [List.length_set] <;> exact hn) (by rw [drop_set _ _ _ hi0] <;> exact hd) hnn (by rw [rd_set _ _ _ hni]; exact pConfMembers) (by rw [rd_set _ _ _ hni]; exact pLog) (by omega) (by first | omega | (rw [rd_set _ _ _ hni]; dsimp only; omega)) hB
theorem laws_markMessageS_7_h {Q : _ → Prop} {B : Int} {n : Nat} {d : List impl_Message} {i : Int} (L : ∀ (k : Int) (s : List impl_Message), s.length = n → s.drop (i + 1).toNat = d → 0 ≤ k → k ≤ B → Tot (laws_markMessageS_2 k (i + 1) s) Q)
    (k : Int) (s : List impl_Message) (hi0 : 0 ≤ i) (hi : i < s.length) (hn : s.length = n) (hd : s.drop (i + 1).toNat = d) (hnn : n ≤ 1048576) (pConfMembers : SmL (fun _ => True) (rdAt s (Int.toNat i) z_impl_Message).Conf.Members) (pLog : SmL (fun _ => True) (rdAt s (Int.toNat i) z_impl_Message).Log) (hk0 : 0 ≤ k) (hkB : k + (7340036) ≤ B) (hB : B ≤ 4611686018427387904) : Tot (laws_markMessageS_7 k i s) Q := by
  have hni : Int.toNat i < s.length := by omega
  rw [laws_markMessageS_7_eq]
  have ex11 : wrap64 (k + 1) = k + 1 := w64 (by omega) (by omega)
  try simp only [cond_dec, if_pos hi0, if_pos hi, List.length_set, List.set_set, rd_set _ _ _ hni, ex11]
  exact laws_markMessageS_9_h L (k + 1) _ hi0 (by simp only [List.length_set] <;> exact hi) (by simp only [List.length_set] <;> exact hn) (by rw [drop_set _ _ _ hi0] <;> exact hd) hnn (by rw [rd_set _ _ _ hni]; exact pConfMembers) (by rw [rd_set _ _ _ hni]; exact pLog) (by omega) (by first | omega | (rw [rd_set _ _ _ hni]; dsimp only; omega)) hB
theorem laws_markMessageS_5_h {Q : _ → Prop} {B : Int} {n : Nat} {d : List impl_Message} {i : Int} (L : ∀ (k : Int) (s : List impl_Message), s.length = n → s.drop (i + 1).toNat = d → 0 ≤ k → k ≤ B → Tot (laws_markMessageS_2 k (i + 1) s) Q)
    (k : Int) (s : List impl_Message) (hi0 : 0 ≤ i) (hi : i < s.length) (hn : s.length = n) (hd : s.drop (i + 1).toNat = d) (hnn : n ≤ 1048576) (pConfMembers : SmL (fun _ => True) (rdAt s (Int.toNat i) z_impl_Message).Conf.Members) (pLog : SmL (fun _ => True) (rdAt s (Int.toNat i) z_impl_Message).Log) (hk0 : 0 ≤ k) (hkB : k + (7340037) ≤ B) (hB : B ≤ 4611686018427387904) : Tot (laws_markMessageS_5 k i s) Q := by
  have hni : Int.toNat i < s.length := by omega
  rw [laws_markMessageS_5_eq]
  have ex11 : wrap64 (k + 1) = k + 1 := w64 (by omega) (by omega)
  try simp only [cond_dec, if_pos hi0, if_pos hi, List.length_set, List.set_set, rd_set _ _ _ hni, ex11]
  exact laws_markMessageS_7_h L (k + 1) _ hi0 (by simp only [List.length_set] <;> exact hi) (by simp only [List.length_set] <;> exact hn) (by rw [drop_set _ _ _ hi0] <;> exact hd) hnn (by rw [rd_set _ _ _ hni]; exact pConfMembers) (by rw [rd_set _ _ _ hni]; exact pLog) (by omega) (by first | omega | (rw [rd_set _ _ _ hni]; dsimp only; omega)) hB
theorem markMessageS_l (M : Int) (hM : M ≤ 4611686018427387904) : ∀ (j : Nat) (k i : Int) (s : List impl_Message), i + j = s.length → 0 ≤ i → s.length ≤ 1048576 → (∀ x ∈ s.drop i.toNat, Sm_impl_Message x) → 0 ≤ k → k + j * 7340037 ≤ M → Tot (laws_markMessageS_2 k i s) (fun r => 0 ≤ r.1 ∧ r.1 ≤ M)
  | 0, k, i, s, hj, hi0, hnn, hp, hk0, hkM => by
    rw [laws_markMessageS_2_eq, cond_dec, if_neg (by omega)]
    exact Tot.val ⟨hk0, by show k ≤ M; omega⟩
  | j + 1, k, i, s, hj, hi0, hnn, hp, hk0, hkM => by
    have hi : i < s.length := by omega
    have hni : Int.toNat i < s.length := by omega
    have hn : s.length = s.length := rfl
    have hd : s.drop (i + 1).toNat = s.drop (i + 1).toNat := rfl
    have hB : M - (j : Int) * 7340037 ≤ 4611686018427387904 := by omega
    have hkB : k + 7340037 ≤ M - (j : Int) * 7340037 := by omega
    have hq : Sm_impl_Message (rdAt s (Int.toNat i) z_impl_Message) := hp _ (rd_in hi0 hi)
    have L : ∀ (k2 : Int) (s2 : List impl_Message), s2.length = s.length → s2.drop (i + 1).toNat = s.drop (i + 1).toNat → 0 ≤ k2 → k2 ≤ M - (j : Int) * 7340037 → Tot (laws_markMessageS_2 k2 (i + 1) s2) (fun r => 0 ≤ r.1 ∧ r.1 ≤ M) := fun k2 s2 h1 h2 h3 h4 => markMessageS_l M hM j k2 (i + 1) s2 (by omega) (by omega) (by omega) (by rw [h2]; exact fun x hx => hp x (drop_mem hi0 hx)) h3 (by omega)
    rw [laws_markMessageS_2_eq]
    try simp only [cond_dec, if_pos hi0, if_pos hi, List.length_set, List.set_set, rd_set _ _ _ hni]
    exact laws_markMessageS_5_h L (k) _ hi0 (by simp only [List.length_set] <;> exact hi) (by simp only [List.length_set] <;> exact hn) (by rw [drop_set _ _ _ hi0] <;> exact hd) hnn (by rw [rd_set _ _ _ hni]; exact hq.1.1) (by rw [rd_set _ _ _ hni]; exact hq.2.1) (by omega) (by first | omega | (rw [rd_set _ _ _ hni]; dsimp only; omega)) hB
theorem markMessageS_t (s : List impl_Message) (k : Int) (hs : SmL Sm_impl_Message s) (h0 : 0 ≤ k) (h1 : k + 7340037 * s.length ≤ 4611686018427387904) : Tot (laws_markMessageS s k) (fun r => 0 ≤ r.1 ∧ r.1 ≤ k + 7340037 * s.length) := by
  have := hs.1
  rw [laws_markMessageS_eq]
  exact markMessageS_l (k + 7340037 * s.length) (by omega) s.length k 0 s (by omega) (by omega) hs.1 hs.2 h0 (by omega)

theorem markBoolS_l (M : Int) (hM : M ≤ 4611686018427387904) : ∀ (j : Nat) (k i : Int) (s : List Bool), i + j = s.length → 0 ≤ i → s.length ≤ 1048576 → (∀ x ∈ s.drop i.toNat, (fun _ => True) x) → 0 ≤ k → k + j * 1 ≤ M → Tot (laws_markBoolS_2 k i s) (fun r => 0 ≤ r.1 ∧ r.1 ≤ M)
  | 0, k, i, s, hj, hi0, hnn, hp, hk0, hkM => by
    rw [laws_markBoolS_2_eq, cond_dec, if_neg (by omega)]
    exact Tot.val ⟨hk0, by show k ≤ M; omega⟩
  | j + 1, k, i, s, hj, hi0, hnn, hp, hk0, hkM => by
    have hi : i < s.length := by omega
    have hni : Int.toNat i < s.length := by omega
    have hn : s.length = s.length := rfl
    have hd : s.drop (i + 1).toNat = s.drop (i + 1).toNat := rfl
    have hB : M - (j : Int) * 1 ≤ 4611686018427387904 := by omega
    have hkB : k + 1 ≤ M - (j : Int) * 1 := by omega
    have L : ∀ (k2 : Int) (s2 : List Bool), s2.length = s.length → s2.drop (i + 1).toNat = s.drop (i + 1).toNat → 0 ≤ k2 → k2 ≤ M - (j : Int) * 1 → Tot (laws_markBoolS_2 k2 (i + 1) s2) (fun r => 0 ≤ r.1 ∧ r.1 ≤ M) := fun k2 s2 h1 h2 h3 h4 => markBoolS_l M hM j k2 (i + 1) s2 (by omega) (by omega) (by omega) (by rw [h2]; exact fun x hx => hp x (drop_mem hi0 hx)) h3 (by omega)
    rw [laws_markBoolS_2_eq]
    have ex11 : wrap64 (k + 1) = k + 1 := w64 (by omega) (by omega)
    try simp only [cond_dec, if_pos hi0, if_pos hi, List.length_set, List.set_set, rd_set _ _ _ hni, ex11]
    rw [w64 (n := i + 1) (by omega) (by omega)]
    exact L _ _ (by simp only [List.length_set] <;> exact hn) (by rw [drop_set _ _ _ hi0] <;> exact hd) (by omega) (by omega)
theorem markBoolS_t (s : List Bool) (k : Int) (hs : SmL (fun _ => True) s) (h0 : 0 ≤ k) (h1 : k + 1 * s.length ≤ 4611686018427387904) : Tot (laws_markBoolS s k) (fun r => 0 ≤ r.1 ∧ r.1 ≤ k + 1 * s.length) := by
  have := hs.1
  rw [laws_markBoolS_eq]
  exact markBoolS_l (k + 1 * s.length) (by omega) s.length k 0 s (by omega) (by omega) hs.1 hs.2 h0 (by omega)

theorem laws_markReplicaS_3_h {Q : _ → Prop} {B : Int} {n : Nat} {d : List impl_Replica} {i : Int} (L : ∀ (k : Int) (s : List impl_Replica), s.length = n → s.drop (i + 1).toNat = d → 0 ≤ k → k ≤ B → Tot (laws_markReplicaS_2 k (i + 1) s) Q)
    (k : Int) (s : List impl_Replica) (hi0 : 0 ≤ i) (hi : i < s.length) (hn : s.length = n) (hd : s.drop (i + 1).toNat = d) (hnn : n ≤ 1048576)  (hk0 : 0 ≤ k) (hkB : k + (0) ≤ B) (hB : B ≤ 4611686018427387904) : Tot (laws_markReplicaS_3 k i s) Q := by
  have hni : Int.toNat i < s.length := by omega
  rw [laws_markReplicaS_3_eq]
  try simp only [cond_dec, if_pos hi0, if_pos hi, List.length_set, List.set_set, rd_set _ _ _ hni]
  rw [w64 (n := i + 1) (by omega) (by omega)]
  exact L _ _ hn hd (by omega) (by omega)
theorem laws_markReplicaS_10_h {Q : _ → Prop} {B : Int} {n : Nat} {d : List impl_Replica} {i : Int} (L : ∀ (k : Int) (s : List impl_Replica), s.length = n → s.drop (i + 1).toNat = d → 0 ≤ k → k ≤ B → Tot (laws_markReplicaS_2 k (i + 1) s) Q)
    (k : Int) (s : List impl_Replica) (hi0 : 0 ≤ i) (hi : i < s.length) (hn : s.length = n) (hd : s.drop (i + 1).toNat = d) (hnn : n ≤ 1048576) (pLog : SmL (fun _ => True) (rdAt s (Int.toNat i) z_impl_Replica).Log) (hk0 : 0 ≤ k) (hkB : k + (6291457) ≤ B) (hB : B ≤ 4611686018427387904) : Tot (laws_markReplicaS_10 k i s) Q := by
  have hni : Int.toNat i < s.length := by omega
  rw [laws_markReplicaS_10_eq]
  have ex11 : wrap64 (k + 1) = k + 1 := w64 (by omega) (by omega)
  try simp only [cond_dec, if_pos hi0, if_pos hi, List.length_set, List.set_set, rd_set _ _ _ hni, ex11]
  have lr1 := pLog.1
  refine (markEntryS_t _ (k + 1) pLog (by omega) (by omega)).bind fun r1 hr1 => ?_
  obtain ⟨hr1a, hr1b⟩ := hr1
  try simp only [cond_dec, if_pos hi0, if_pos hi, List.length_set, List.set_set, rd_set _ _ _ hni, ex11]
  exact laws_markReplicaS_3_h L (r1.1) _ hi0 (by simp only [List.length_set] <;> exact hi) (by simp only [List.length_set] <;> exact hn) (by rw [drop_set _ _ _ hi0] <;> exact hd) hnn  (by omega) (by first | omega | (rw [rd_set _ _ _ hni]; dsimp only; omega)) hB
theorem laws_markReplicaS_8_h {Q : _ → Prop} {B : Int} {n : Nat} {d : List impl_Replica} {i : Int} (L : ∀ (k : Int) (s : List impl_Replica), s.length = n → s.drop (i + 1).toNat = d → 0 ≤ k → k ≤ B → Tot (laws_markReplicaS_2 k (i + 1) s) Q)
    (k : Int) (s : List impl_Replica) (hi0 : 0 ≤ i) (hi : i < s.length) (hn : s.length = n) (hd : s.drop (i + 1).toNat = d) (hnn : n ≤ 1048576) (pLog : SmL (fun _ => True) (rdAt s (Int.toNat i) z_impl_Replica).Log) (hk0 : 0 ≤ k) (hkB : k + (6291458) ≤ B) (hB : B ≤ 4611686018427387904) : Tot (laws_markReplicaS_8 k i s) Q := by
  have hni : Int.toNat i < s.length := by omega
  rw [laws_markReplicaS_8_eq]
  have ex11 : wrap64 (k + 1) = k + 1 := w64 (by omega) (by omega)
  try simp only [cond_dec, if_pos hi0, if_pos hi, List.length_set, List.set_set, rd_set _ _ _ hni, ex11]
  exact laws_markReplicaS_10_h L (k + 1) _ hi0 (by simp only [List.length_set] <;> exact hi) (by simp only [List.length_set] <;> exact hn) (by rw [drop_set _ _ _ hi0] <;> exact hd) hnn (by rw [rd_set _ _ _ hni]; exact pLog) (by omega) (by first | omega | (rw [rd_set _ _ _ hni]; dsimp only; omega)) hB
theorem laws_markReplicaS_7_h {Q : _ → Prop} {B : Int} {n : Nat} {d : List impl_Replica} {i : Int} (L : ∀ (k : Int) (s : List impl_Replica), s.length = n → s.drop (i + 1).toNat = d → 0 ≤ k → k ≤ B → Tot (laws_markReplicaS_2 k (i + 1) s) Q)
    (k : Int) (s : List impl_Replica) (hi0 : 0 ≤ i) (hi : i < s.length) (hn : s.length = n) (hd : s.drop (i + 1).toNat = d) (hnn : n ≤ 1048576) (pLog : SmL (fun _ => True) (rdAt s (Int.toNat i) z_impl_Replica).Log) (hk0 : 0 ≤ k) (hkB : k + (6291458) ≤ B) (hB : B ≤ 4611686018427387904) : Tot (laws_markReplicaS_7 k i s) Q := by
  have hni : Int.toNat i < s.length := by omega
  rw [laws_markReplicaS_7_eq]
  try simp only [cond_dec, if_pos hi0, if_pos hi, List.length_set, List.set_set, rd_set _ _ _ hni]
  exact laws_markReplicaS_8_h L (k) _ hi0 (by simp only [List.length_set] <;> exact hi) (by simp only [List.length_set] <;> exact hn) (by rw [drop_set _ _ _ hi0] <;> exact hd) hnn (by rw [rd_set _ _ _ hni]; exact pLog) (by omega) (by first | omega | (rw [rd_set _ _ _ hni]; dsimp only; omega)) hB
theorem laws_markReplicaS_5_h {Q : _ → Prop} {B : Int} {n : Nat} {d : List impl_Replica} {i : Int} (L : ∀ (k : Int) (s : List impl_Replica), s.length = n → s.drop (i + 1).toNat = d → 0 ≤ k → k ≤ B → Tot (laws_markReplicaS_2 k (i + 1) s) Q)
    (k : Int) (s : List impl_Replica) (hi0 : 0 ≤ i) (hi : i < s.length) (hn : s.length = n) (hd : s.drop (i + 1).toNat = d) (hnn : n ≤ 1048576) (pConfMembers : SmL (fun _ => True) (rdAt s (Int.toNat i) z_impl_Replica).Conf.Members) (pLog : SmL (fun _ => True) (rdAt s (Int.toNat i) z_impl_Replica).Log) (hk0 : 0 ≤ k) (hkB : k + (7340035) ≤ B) (hB : B ≤ 4611686018427387904) : Tot (laws_markReplicaS_5 k i s) Q := by
  have hni : Int.toNat i < s.length := by omega
  rw [laws_markReplicaS_5_eq]
  have ex11 : wrap64 (k + 1) = k + 1 := w64 (by omega) (by omega)
  try simp only [cond_dec, if_pos hi0, if_pos hi, List.length_set, List.set_set, rd_set _ _ _ hni, ex11]
  have lr1 := pConfMembers.1
  refine (markIntS_t _ (k + 1) pConfMembers (by omega) (by omega)).bind fun r1 hr1 => ?_
  obtain ⟨hr1a, hr1b⟩ := hr1
  try simp only [cond_dec, if_pos hi0, if_pos hi, List.length_set, List.set_set, rd_set _ _ _ hni, ex11]
  exact laws_markReplicaS_7_h L (r1.1) _ hi0 (by simp only [List.length_set] <;> exact hi) (by simp only [List.length_set] <;> exact hn) (by rw [drop_set _ _ _ hi0] <;> exact hd) hnn (by rw [rd_set _ _ _ hni]; exact pLog) (by omega) (by first | omega | (rw [rd_set _ _ _ hni]; dsimp only; omega)) hB
theorem markReplicaS_l (M : Int) (hM : M ≤ 4611686018427387904) : ∀ (j : Nat) (k i : Int) (s : List impl_Replica), i + j = s.length → 0 ≤ i → s.length ≤ 1048576 → (∀ x ∈ s.drop i.toNat, Sm_impl_Replica x) → 0 ≤ k → k + j * 7340035 ≤ M → Tot (laws_markReplicaS_2 k i s) (fun r => 0 ≤ r.1 ∧ r.1 ≤ M)
  | 0, k, i, s, hj, hi0, hnn, hp, hk0, hkM => by
    rw [laws_markReplicaS_2_eq, cond_dec, if_neg (by omega)]
    exact Tot.val ⟨hk0, by show k ≤ M; omega⟩
  | j + 1, k, i, s, hj, hi0, hnn, hp, hk0, hkM => by
    have hi : i < s.length := by omega
    have hni : Int.toNat i < s.length := by omega
    have hn : s.length = s.length := rfl
    have hd : s.drop (i + 1).toNat = s.drop (i + 1).toNat := rfl
    have hB : M - (j : Int) * 7340035 ≤ 4611686018427387904 := by omega
    have hkB : k + 7340035 ≤ M - (j : Int) * 7340035 := by omega
    have hq : Sm_impl_Replica (rdAt s (Int.toNat i) z_impl_Replica) := hp _ (rd_in hi0 hi)
    have L : ∀ (k2 : Int) (s2 : List impl_Replica), s2.length = s.length → s2.drop (i + 1).toNat = s.drop (i + 1).toNat → 0 ≤ k2 → k2 ≤ M - (j : Int) * 7340035 → Tot (laws_markReplicaS_2 k2 (i + 1) s2) (fun r => 0 ≤ r.1 ∧ r.1 ≤ M) := fun k2 s2 h1 h2 h3 h4 => markReplicaS_l M hM j k2 (i + 1) s2 (by omega) (by omega) (by omega) (by rw [h2]; exact fun x hx => hp x (drop_mem hi0 hx)) h3 (by omega)
    rw [laws_markReplicaS_2_eq]
    try simp only [cond_dec, if_pos hi0, if_pos hi, List.length_set, List.set_set, rd_set _ _ _ hni]
    exact laws_markReplicaS_5_h L (k) _ hi0 (by simp only [List.length_set] <;> exact hi) (by simp only [List.length_set] <;> exact hn) (by rw [drop_set _ _ _ hi0] <;> exact hd) hnn (by rw [rd_set _ _ _ hni]; exact hq.1.1) (by rw [rd_set _ _ _ hni]; exact hq.2.1) (by omega) (by first | omega | (rw [rd_set _ _ _ hni]; dsimp only; omega)) hB
theorem markReplicaS_t (s : List impl_Replica) (k : Int) (hs : SmL Sm_impl_Replica s) (h0 : 0 ≤ k) (h1 : k + 7340035 * s.length ≤ 4611686018427387904) : Tot (laws_markReplicaS s k) (fun r => 0 ≤ r.1 ∧ r.1 ≤ k + 7340035 * s.length) := by
  have := hs.1
  rw [laws_markReplicaS_eq]
  exact markReplicaS_l (k + 7340035 * s.length) (by omega) s.length k 0 s (by omega) (by omega) hs.1 hs.2 h0 (by omega)

end Go.Proofs.YtpdmjnejnplhnaaGreat.Ev
