/- The laws mark lists: that returns. Printed by genmarks.py. No condition. -/
import Derived.Test.YtoiddibdlmcecaaGreatPuMt
set_option linter.unusedVariables false
set_option linter.unusedSimpArgs false
namespace Go.Proofs.YtoiddibdlmcecaaGreat.Ev
open Go.Proofs.YtoiddibdlmcecaaGreat.Eng
open Go.RowKit (wrap64)

theorem rd_in {α : Type} {d : α} {s : List α} {i : Int} (h0 : 0 ≤ i) (h : i < s.length) : rdAt s (Int.toNat i) d ∈ s.drop i.toNat := by
  rw [rd_eq' (by omega)]
  exact List.mem_drop_iff_getElem.2 ⟨0, by omega, by simp⟩
theorem drop_mem {α : Type} {s : List α} {i : Int} {x : α} (h0 : 0 ≤ i) (h : x ∈ s.drop (i + 1).toNat) : x ∈ s.drop i.toNat := by
  rw [show (i + 1).toNat = i.toNat + 1 by omega, ← List.drop_drop] at h
  exact List.mem_of_mem_drop h
theorem drop_set {α : Type} (s : List α) (i : Int) (y : α) (h : 0 ≤ i) : (List.set s (Int.toNat i) y).drop (i + 1).toNat = s.drop (i + 1).toNat := List.drop_set_of_lt (by omega)
theorem laws_markRouteS_9_h {Q : _ → Prop} {B : Int} {n : Nat} {d : List impl_Route} {i : Int} (L : ∀ (k : Int) (s : List impl_Route), s.length = n → s.drop (i + 1).toNat = d → 0 ≤ k → k ≤ B → Tot (laws_markRouteS_2 k (i + 1) s) Q)
    (k : Int) (s : List impl_Route) (hi0 : 0 ≤ i) (hi : i < s.length) (hn : s.length = n) (hd : s.drop (i + 1).toNat = d) (hnn : n ≤ 1048576)  (hk0 : 0 ≤ k) (hkB : k + (1) ≤ B) (hB : B ≤ 4611686018427387904) : Tot (laws_markRouteS_9 k i s) Q := by
  have hni : Int.toNat i < s.length := by omega
  rw [laws_markRouteS_9_eq]
  have ex11 : wrap64 (k + 1) = k + 1 := w64 (by omega) (by omega)
  try simp only [cond_dec, if_pos hi0, if_pos hi, List.length_set, List.set_set, rd_set _ _ _ hni, ex11]
  rw [w64 (n := i + 1) (by omega) (by omega)]
  exact L _ _ hn hd (by omega) (by omega)
theorem laws_markRouteS_7_h {Q : _ → Prop} {B : Int} {n : Nat} {d : List impl_Route} {i : Int} (L : ∀ (k : Int) (s : List impl_Route), s.length = n → s.drop (i + 1).toNat = d → 0 ≤ k → k ≤ B → Tot (laws_markRouteS_2 k (i + 1) s) Q)
    (k : Int) (s : List impl_Route) (hi0 : 0 ≤ i) (hi : i < s.length) (hn : s.length = n) (hd : s.drop (i + 1).toNat = d) (hnn : n ≤ 1048576)  (hk0 : 0 ≤ k) (hkB : k + (2) ≤ B) (hB : B ≤ 4611686018427387904) : Tot (laws_markRouteS_7 k i s) Q := by
  have hni : Int.toNat i < s.length := by omega
  rw [laws_markRouteS_7_eq]
  have ex11 : wrap64 (k + 1) = k + 1 := w64 (by omega) (by omega)
  try simp only [cond_dec, if_pos hi0, if_pos hi, List.length_set, List.set_set, rd_set _ _ _ hni, ex11]
  rw [mt_eq (k + 1) (by omega) (by omega), Option.bind_some]
  try simp only [cond_dec, if_pos hi0, if_pos hi, List.length_set, List.set_set, rd_set _ _ _ hni]
  exact laws_markRouteS_9_h L (k + 1) _ hi0 (by simp only [List.length_set] <;> exact hi) (by simp only [List.length_set] <;> exact hn) (by rw [drop_set _ _ _ hi0] <;> exact hd) hnn  (by omega) (by first | omega | (rw [rd_set _ _ _ hni]; dsimp only; omega)) hB
theorem markRouteS_l (M : Int) (hM : M ≤ 4611686018427387904) : ∀ (j : Nat) (k i : Int) (s : List impl_Route), i + j = s.length → 0 ≤ i → s.length ≤ 1048576 → (∀ x ∈ s.drop i.toNat, (fun _ => True) x) → 0 ≤ k → k + j * 3 ≤ M → Tot (laws_markRouteS_2 k i s) (fun r => 0 ≤ r.1 ∧ r.1 ≤ M)
  | 0, k, i, s, hj, hi0, hnn, hp, hk0, hkM => by
    rw [laws_markRouteS_2_eq, cond_dec, if_neg (by omega)]
    exact Tot.val ⟨hk0, by show k ≤ M; omega⟩
  | j + 1, k, i, s, hj, hi0, hnn, hp, hk0, hkM => by
    have hi : i < s.length := by omega
    have hni : Int.toNat i < s.length := by omega
    have hn : s.length = s.length := rfl
    have hd : s.drop (i + 1).toNat = s.drop (i + 1).toNat := rfl
    have hB : M - (j : Int) * 3 ≤ 4611686018427387904 := by omega
    have hkB : k + 3 ≤ M - (j : Int) * 3 := by omega
    have L : ∀ (k2 : Int) (s2 : List impl_Route), s2.length = s.length → s2.drop (i + 1).toNat = s.drop (i + 1).toNat → 0 ≤ k2 → k2 ≤ M - (j : Int) * 3 → Tot (laws_markRouteS_2 k2 (i + 1) s2) (fun r => 0 ≤ r.1 ∧ r.1 ≤ M) := fun k2 s2 h1 h2 h3 h4 => markRouteS_l M hM j k2 (i + 1) s2 (by omega) (by omega) (by omega) (by rw [h2]; exact fun x hx => hp x (drop_mem hi0 hx)) h3 (by omega)
    rw [laws_markRouteS_2_eq]
    have ex11 : wrap64 (k + 1) = k + 1 := w64 (by omega) (by omega)
    try simp only [cond_dec, if_pos hi0, if_pos hi, List.length_set, List.set_set, rd_set _ _ _ hni, ex11]
    rw [mt_eq (k + 1) (by omega) (by omega), Option.bind_some]
    try simp only [cond_dec, if_pos hi0, if_pos hi, List.length_set, List.set_set, rd_set _ _ _ hni]
    exact laws_markRouteS_7_h L (k + 1) _ hi0 (by simp only [List.length_set] <;> exact hi) (by simp only [List.length_set] <;> exact hn) (by rw [drop_set _ _ _ hi0] <;> exact hd) hnn  (by omega) (by first | omega | (rw [rd_set _ _ _ hni]; dsimp only; omega)) hB
theorem markRouteS_t (s : List impl_Route) (k : Int) (hs : SmL (fun _ => True) s) (h0 : 0 ≤ k) (h1 : k + 3 * s.length ≤ 4611686018427387904) : Tot (laws_markRouteS s k) (fun r => 0 ≤ r.1 ∧ r.1 ≤ k + 3 * s.length) := by
  have := hs.1
  rw [laws_markRouteS_eq]
  exact markRouteS_l (k + 3 * s.length) (by omega) s.length k 0 s (by omega) (by omega) hs.1 hs.2 h0 (by omega)

theorem laws_markResultS_21_h {Q : _ → Prop} {B : Int} {n : Nat} {d : List impl_Result} {i : Int} (L : ∀ (k : Int) (s : List impl_Result), s.length = n → s.drop (i + 1).toNat = d → 0 ≤ k → k ≤ B → Tot (laws_markResultS_2 k (i + 1) s) Q)
    (k : Int) (s : List impl_Result) (hi0 : 0 ≤ i) (hi : i < s.length) (hn : s.length = n) (hd : s.drop (i + 1).toNat = d) (hnn : n ≤ 1048576)  (hk0 : 0 ≤ k) (hkB : k + (1) ≤ B) (hB : B ≤ 4611686018427387904) : Tot (laws_markResultS_21 k i s) Q := by
  have hni : Int.toNat i < s.length := by omega
  rw [laws_markResultS_21_eq]
  have ex11 : wrap64 (k + 1) = k + 1 := w64 (by omega) (by omega)
  try simp only [cond_dec, if_pos hi0, if_pos hi, List.length_set, List.set_set, rd_set _ _ _ hni, ex11]
  rw [w64 (n := i + 1) (by omega) (by omega)]
  exact L _ _ hn hd (by omega) (by omega)
theorem laws_markResultS_19_h {Q : _ → Prop} {B : Int} {n : Nat} {d : List impl_Result} {i : Int} (L : ∀ (k : Int) (s : List impl_Result), s.length = n → s.drop (i + 1).toNat = d → 0 ≤ k → k ≤ B → Tot (laws_markResultS_2 k (i + 1) s) Q)
    (k : Int) (s : List impl_Result) (hi0 : 0 ≤ i) (hi : i < s.length) (hn : s.length = n) (hd : s.drop (i + 1).toNat = d) (hnn : n ≤ 1048576)  (hk0 : 0 ≤ k) (hkB : k + (2) ≤ B) (hB : B ≤ 4611686018427387904) : Tot (laws_markResultS_19 k i s) Q := by
  have hni : Int.toNat i < s.length := by omega
  rw [laws_markResultS_19_eq]
  have ex11 : wrap64 (k + 1) = k + 1 := w64 (by omega) (by omega)
  try simp only [cond_dec, if_pos hi0, if_pos hi, List.length_set, List.set_set, rd_set _ _ _ hni, ex11]
  exact laws_markResultS_21_h L (k + 1) _ hi0 (by simp only [List.length_set] <;> exact hi) (by simp only [List.length_set] <;> exact hn) (by rw [drop_set _ _ _ hi0] <;> exact hd) hnn  (by omega) (by first | omega | (rw [rd_set _ _ _ hni]; dsimp only; omega)) hB
theorem laws_markResultS_17_h {Q : _ → Prop} {B : Int} {n : Nat} {d : List impl_Result} {i : Int} (L : ∀ (k : Int) (s : List impl_Result), s.length = n → s.drop (i + 1).toNat = d → 0 ≤ k → k ≤ B → Tot (laws_markResultS_2 k (i + 1) s) Q)
    (k : Int) (s : List impl_Result) (hi0 : 0 ≤ i) (hi : i < s.length) (hn : s.length = n) (hd : s.drop (i + 1).toNat = d) (hnn : n ≤ 1048576)  (hk0 : 0 ≤ k) (hkB : k + (3) ≤ B) (hB : B ≤ 4611686018427387904) : Tot (laws_markResultS_17 k i s) Q := by
  have hni : Int.toNat i < s.length := by omega
  rw [laws_markResultS_17_eq]
  have ex11 : wrap64 (k + 1) = k + 1 := w64 (by omega) (by omega)
  try simp only [cond_dec, if_pos hi0, if_pos hi, List.length_set, List.set_set, rd_set _ _ _ hni, ex11]
  exact laws_markResultS_19_h L (k + 1) _ hi0 (by simp only [List.length_set] <;> exact hi) (by simp only [List.length_set] <;> exact hn) (by rw [drop_set _ _ _ hi0] <;> exact hd) hnn  (by omega) (by first | omega | (rw [rd_set _ _ _ hni]; dsimp only; omega)) hB
theorem laws_markResultS_15_h {Q : _ → Prop} {B : Int} {n : Nat} {d : List impl_Result} {i : Int} (L : ∀ (k : Int) (s : List impl_Result), s.length = n → s.drop (i + 1).toNat = d → 0 ≤ k → k ≤ B → Tot (laws_markResultS_2 k (i + 1) s) Q)
    (k : Int) (s : List impl_Result) (hi0 : 0 ≤ i) (hi : i < s.length) (hn : s.length = n) (hd : s.drop (i + 1).toNat = d) (hnn : n ≤ 1048576)  (hk0 : 0 ≤ k) (hkB : k + (4) ≤ B) (hB : B ≤ 4611686018427387904) : Tot (laws_markResultS_15 k i s) Q := by
  have hni : Int.toNat i < s.length := by omega
  rw [laws_markResultS_15_eq]
  have ex11 : wrap64 (k + 1) = k + 1 := w64 (by omega) (by omega)
  try simp only [cond_dec, if_pos hi0, if_pos hi, List.length_set, List.set_set, rd_set _ _ _ hni, ex11]
  exact laws_markResultS_17_h L (k + 1) _ hi0 (by simp only [List.length_set] <;> exact hi) (by simp only [List.length_set] <;> exact hn) (by rw [drop_set _ _ _ hi0] <;> exact hd) hnn  (by omega) (by first | omega | (rw [rd_set _ _ _ hni]; dsimp only; omega)) hB
theorem laws_markResultS_13_h {Q : _ → Prop} {B : Int} {n : Nat} {d : List impl_Result} {i : Int} (L : ∀ (k : Int) (s : List impl_Result), s.length = n → s.drop (i + 1).toNat = d → 0 ≤ k → k ≤ B → Tot (laws_markResultS_2 k (i + 1) s) Q)
    (k : Int) (s : List impl_Result) (hi0 : 0 ≤ i) (hi : i < s.length) (hn : s.length = n) (hd : s.drop (i + 1).toNat = d) (hnn : n ≤ 1048576)  (hk0 : 0 ≤ k) (hkB : k + (5) ≤ B) (hB : B ≤ 4611686018427387904) : Tot (laws_markResultS_13 k i s) Q := by
  have hni : Int.toNat i < s.length := by omega
  rw [laws_markResultS_13_eq]
  have ex11 : wrap64 (k + 1) = k + 1 := w64 (by omega) (by omega)
  try simp only [cond_dec, if_pos hi0, if_pos hi, List.length_set, List.set_set, rd_set _ _ _ hni, ex11]
  exact laws_markResultS_15_h L (k + 1) _ hi0 (by simp only [List.length_set] <;> exact hi) (by simp only [List.length_set] <;> exact hn) (by rw [drop_set _ _ _ hi0] <;> exact hd) hnn  (by omega) (by first | omega | (rw [rd_set _ _ _ hni]; dsimp only; omega)) hB
theorem laws_markResultS_11_h {Q : _ → Prop} {B : Int} {n : Nat} {d : List impl_Result} {i : Int} (L : ∀ (k : Int) (s : List impl_Result), s.length = n → s.drop (i + 1).toNat = d → 0 ≤ k → k ≤ B → Tot (laws_markResultS_2 k (i + 1) s) Q)
    (k : Int) (s : List impl_Result) (hi0 : 0 ≤ i) (hi : i < s.length) (hn : s.length = n) (hd : s.drop (i + 1).toNat = d) (hnn : n ≤ 1048576)  (hk0 : 0 ≤ k) (hkB : k + (6) ≤ B) (hB : B ≤ 4611686018427387904) : Tot (laws_markResultS_11 k i s) Q := by
  have hni : Int.toNat i < s.length := by omega
  rw [laws_markResultS_11_eq]
  have ex11 : wrap64 (k + 1) = k + 1 := w64 (by omega) (by omega)
  try simp only [cond_dec, if_pos hi0, if_pos hi, List.length_set, List.set_set, rd_set _ _ _ hni, ex11]
  exact laws_markResultS_13_h L (k + 1) _ hi0 (by simp only [List.length_set] <;> exact hi) (by simp only [List.length_set] <;> exact hn) (by rw [drop_set _ _ _ hi0] <;> exact hd) hnn  (by omega) (by first | omega | (rw [rd_set _ _ _ hni]; dsimp only; omega)) hB
theorem laws_markResultS_9_h {Q : _ → Prop} {B : Int} {n : Nat} {d : List impl_Result} {i : Int} (L : ∀ (k : Int) (s : List impl_Result), s.length = n → s.drop (i + 1).toNat = d → 0 ≤ k → k ≤ B → Tot (laws_markResultS_2 k (i + 1) s) Q)
    (k : Int) (s : List impl_Result) (hi0 : 0 ≤ i) (hi : i < s.length) (hn : s.length = n) (hd : s.drop (i + 1).toNat = d) (hnn : n ≤ 1048576)  (hk0 : 0 ≤ k) (hkB : k + (7) ≤ B) (hB : B ≤ 4611686018427387904) : Tot (laws_markResultS_9 k i s) Q := by
  have hni : Int.toNat i < s.length := by omega
  rw [laws_markResultS_9_eq]
  have ex11 : wrap64 (k + 1) = k + 1 := w64 (by omega) (by omega)
  try simp only [cond_dec, if_pos hi0, if_pos hi, List.length_set, List.set_set, rd_set _ _ _ hni, ex11]
  rw [mt_eq (k + 1) (by omega) (by omega), Option.bind_some]
  try simp only [cond_dec, if_pos hi0, if_pos hi, List.length_set, List.set_set, rd_set _ _ _ hni]
  exact laws_markResultS_11_h L (k + 1) _ hi0 (by simp only [List.length_set] <;> exact hi) (by simp only [List.length_set] <;> exact hn) (by rw [drop_set _ _ _ hi0] <;> exact hd) hnn  (by omega) (by first | omega | (rw [rd_set _ _ _ hni]; dsimp only; omega)) hB
theorem laws_markResultS_7_h {Q : _ → Prop} {B : Int} {n : Nat} {d : List impl_Result} {i : Int} (L : ∀ (k : Int) (s : List impl_Result), s.length = n → s.drop (i + 1).toNat = d → 0 ≤ k → k ≤ B → Tot (laws_markResultS_2 k (i + 1) s) Q)
    (k : Int) (s : List impl_Result) (hi0 : 0 ≤ i) (hi : i < s.length) (hn : s.length = n) (hd : s.drop (i + 1).toNat = d) (hnn : n ≤ 1048576)  (hk0 : 0 ≤ k) (hkB : k + (8) ≤ B) (hB : B ≤ 4611686018427387904) : Tot (laws_markResultS_7 k i s) Q := by
  have hni : Int.toNat i < s.length := by omega
  rw [laws_markResultS_7_eq]
  have ex11 : wrap64 (k + 1) = k + 1 := w64 (by omega) (by omega)
  try simp only [cond_dec, if_pos hi0, if_pos hi, List.length_set, List.set_set, rd_set _ _ _ hni, ex11]
  exact laws_markResultS_9_h L (k + 1) _ hi0 (by simp only [List.length_set] <;> exact hi) (by simp only [List.length_set] <;> exact hn) (by rw [drop_set _ _ _ hi0] <;> exact hd) hnn  (by omega) (by first | omega | (rw [rd_set _ _ _ hni]; dsimp only; omega)) hB
theorem laws_markResultS_5_h {Q : _ → Prop} {B : Int} {n : Nat} {d : List impl_Result} {i : Int} (L : ∀ (k : Int) (s : List impl_Result), s.length = n → s.drop (i + 1).toNat = d → 0 ≤ k → k ≤ B → Tot (laws_markResultS_2 k (i + 1) s) Q)
    (k : Int) (s : List impl_Result) (hi0 : 0 ≤ i) (hi : i < s.length) (hn : s.length = n) (hd : s.drop (i + 1).toNat = d) (hnn : n ≤ 1048576)  (hk0 : 0 ≤ k) (hkB : k + (9) ≤ B) (hB : B ≤ 4611686018427387904) : Tot (laws_markResultS_5 k i s) Q := by
  have hni : Int.toNat i < s.length := by omega
  rw [laws_markResultS_5_eq]
  have ex11 : wrap64 (k + 1) = k + 1 := w64 (by omega) (by omega)
  try simp only [cond_dec, if_pos hi0, if_pos hi, List.length_set, List.set_set, rd_set _ _ _ hni, ex11]
  exact laws_markResultS_7_h L (k + 1) _ hi0 (by simp only [List.length_set] <;> exact hi) (by simp only [List.length_set] <;> exact hn) (by rw [drop_set _ _ _ hi0] <;> exact hd) hnn  (by omega) (by first | omega | (rw [rd_set _ _ _ hni]; dsimp only; omega)) hB
theorem markResultS_l (M : Int) (hM : M ≤ 4611686018427387904) : ∀ (j : Nat) (k i : Int) (s : List impl_Result), i + j = s.length → 0 ≤ i → s.length ≤ 1048576 → (∀ x ∈ s.drop i.toNat, (fun _ => True) x) → 0 ≤ k → k + j * 9 ≤ M → Tot (laws_markResultS_2 k i s) (fun r => 0 ≤ r.1 ∧ r.1 ≤ M)
  | 0, k, i, s, hj, hi0, hnn, hp, hk0, hkM => by
    rw [laws_markResultS_2_eq, cond_dec, if_neg (by omega)]
    exact Tot.val ⟨hk0, by show k ≤ M; omega⟩
  | j + 1, k, i, s, hj, hi0, hnn, hp, hk0, hkM => by
    have hi : i < s.length := by omega
    have hni : Int.toNat i < s.length := by omega
    have hn : s.length = s.length := rfl
    have hd : s.drop (i + 1).toNat = s.drop (i + 1).toNat := rfl
    have hB : M - (j : Int) * 9 ≤ 4611686018427387904 := by omega
    have hkB : k + 9 ≤ M - (j : Int) * 9 := by omega
    have L : ∀ (k2 : Int) (s2 : List impl_Result), s2.length = s.length → s2.drop (i + 1).toNat = s.drop (i + 1).toNat → 0 ≤ k2 → k2 ≤ M - (j : Int) * 9 → Tot (laws_markResultS_2 k2 (i + 1) s2) (fun r => 0 ≤ r.1 ∧ r.1 ≤ M) := fun k2 s2 h1 h2 h3 h4 => markResultS_l M hM j k2 (i + 1) s2 (by omega) (by omega) (by omega) (by rw [h2]; exact fun x hx => hp x (drop_mem hi0 hx)) h3 (by omega)
    rw [laws_markResultS_2_eq]
    try simp only [cond_dec, if_pos hi0, if_pos hi, List.length_set, List.set_set, rd_set _ _ _ hni]
    exact laws_markResultS_5_h L (k) _ hi0 (by simp only [List.length_set] <;> exact hi) (by simp only [List.length_set] <;> exact hn) (by rw [drop_set _ _ _ hi0] <;> exact hd) hnn  (by omega) (by first | omega | (rw [rd_set _ _ _ hni]; dsimp only; omega)) hB
theorem markResultS_t (s : List impl_Result) (k : Int) (hs : SmL (fun _ => True) s) (h0 : 0 ≤ k) (h1 : k + 9 * s.length ≤ 4611686018427387904) : Tot (laws_markResultS s k) (fun r => 0 ≤ r.1 ∧ r.1 ≤ k + 9 * s.length) := by
  have := hs.1
  rw [laws_markResultS_eq]
  exact markResultS_l (k + 9 * s.length) (by omega) s.length k 0 s (by omega) (by omega) hs.1 hs.2 h0 (by omega)

theorem laws_markCallerS_18_h {Q : _ → Prop} {B : Int} {n : Nat} {d : List impl_Caller} {i : Int} (L : ∀ (k : Int) (s : List impl_Caller), s.length = n → s.drop (i + 1).toNat = d → 0 ≤ k → k ≤ B → Tot (laws_markCallerS_2 k (i + 1) s) Q)
    (k : Int) (s : List impl_Caller) (hi0 : 0 ≤ i) (hi : i < s.length) (hn : s.length = n) (hd : s.drop (i + 1).toNat = d) (hnn : n ≤ 1048576)  (hk0 : 0 ≤ k) (hkB : k + (1) ≤ B) (hB : B ≤ 4611686018427387904) : Tot (laws_markCallerS_18 k i s) Q := by
  have hni : Int.toNat i < s.length := by omega
  rw [laws_markCallerS_18_eq]
  have ex11 : wrap64 (k + 1) = k + 1 := w64 (by omega) (by omega)
  try simp only [cond_dec, if_pos hi0, if_pos hi, List.length_set, List.set_set, rd_set _ _ _ hni, ex11]
  rw [w64 (n := i + 1) (by omega) (by omega)]
  exact L _ _ hn hd (by omega) (by omega)
theorem laws_markCallerS_16_h {Q : _ → Prop} {B : Int} {n : Nat} {d : List impl_Caller} {i : Int} (L : ∀ (k : Int) (s : List impl_Caller), s.length = n → s.drop (i + 1).toNat = d → 0 ≤ k → k ≤ B → Tot (laws_markCallerS_2 k (i + 1) s) Q)
    (k : Int) (s : List impl_Caller) (hi0 : 0 ≤ i) (hi : i < s.length) (hn : s.length = n) (hd : s.drop (i + 1).toNat = d) (hnn : n ≤ 1048576)  (hk0 : 0 ≤ k) (hkB : k + (2) ≤ B) (hB : B ≤ 4611686018427387904) : Tot (laws_markCallerS_16 k i s) Q := by
  have hni : Int.toNat i < s.length := by omega
  rw [laws_markCallerS_16_eq]
  have ex11 : wrap64 (k + 1) = k + 1 := w64 (by omega) (by omega)
  try simp only [cond_dec, if_pos hi0, if_pos hi, List.length_set, List.set_set, rd_set _ _ _ hni, ex11]
  exact laws_markCallerS_18_h L (k + 1) _ hi0 (by simp only [List.length_set] <;> exact hi) (by simp only [List.length_set] <;> exact hn) (by rw [drop_set _ _ _ hi0] <;> exact hd) hnn  (by omega) (by first | omega | (rw [rd_set _ _ _ hni]; dsimp only; omega)) hB
theorem laws_markCallerS_14_h {Q : _ → Prop} {B : Int} {n : Nat} {d : List impl_Caller} {i : Int} (L : ∀ (k : Int) (s : List impl_Caller), s.length = n → s.drop (i + 1).toNat = d → 0 ≤ k → k ≤ B → Tot (laws_markCallerS_2 k (i + 1) s) Q)
    (k : Int) (s : List impl_Caller) (hi0 : 0 ≤ i) (hi : i < s.length) (hn : s.length = n) (hd : s.drop (i + 1).toNat = d) (hnn : n ≤ 1048576)  (hk0 : 0 ≤ k) (hkB : k + (3) ≤ B) (hB : B ≤ 4611686018427387904) : Tot (laws_markCallerS_14 k i s) Q := by
  have hni : Int.toNat i < s.length := by omega
  rw [laws_markCallerS_14_eq]
  have ex11 : wrap64 (k + 1) = k + 1 := w64 (by omega) (by omega)
  try simp only [cond_dec, if_pos hi0, if_pos hi, List.length_set, List.set_set, rd_set _ _ _ hni, ex11]
  exact laws_markCallerS_16_h L (k + 1) _ hi0 (by simp only [List.length_set] <;> exact hi) (by simp only [List.length_set] <;> exact hn) (by rw [drop_set _ _ _ hi0] <;> exact hd) hnn  (by omega) (by first | omega | (rw [rd_set _ _ _ hni]; dsimp only; omega)) hB
theorem laws_markCallerS_12_h {Q : _ → Prop} {B : Int} {n : Nat} {d : List impl_Caller} {i : Int} (L : ∀ (k : Int) (s : List impl_Caller), s.length = n → s.drop (i + 1).toNat = d → 0 ≤ k → k ≤ B → Tot (laws_markCallerS_2 k (i + 1) s) Q)
    (k : Int) (s : List impl_Caller) (hi0 : 0 ≤ i) (hi : i < s.length) (hn : s.length = n) (hd : s.drop (i + 1).toNat = d) (hnn : n ≤ 1048576)  (hk0 : 0 ≤ k) (hkB : k + (4) ≤ B) (hB : B ≤ 4611686018427387904) : Tot (laws_markCallerS_12 k i s) Q := by
  have hni : Int.toNat i < s.length := by omega
  rw [laws_markCallerS_12_eq]
  have ex11 : wrap64 (k + 1) = k + 1 := w64 (by omega) (by omega)
  try simp only [cond_dec, if_pos hi0, if_pos hi, List.length_set, List.set_set, rd_set _ _ _ hni, ex11]
  exact laws_markCallerS_14_h L (k + 1) _ hi0 (by simp only [List.length_set] <;> exact hi) (by simp only [List.length_set] <;> exact hn) (by rw [drop_set _ _ _ hi0] <;> exact hd) hnn  (by omega) (by first | omega | (rw [rd_set _ _ _ hni]; dsimp only; omega)) hB
theorem laws_markCallerS_10_h {Q : _ → Prop} {B : Int} {n : Nat} {d : List impl_Caller} {i : Int} (L : ∀ (k : Int) (s : List impl_Caller), s.length = n → s.drop (i + 1).toNat = d → 0 ≤ k → k ≤ B → Tot (laws_markCallerS_2 k (i + 1) s) Q)
    (k : Int) (s : List impl_Caller) (hi0 : 0 ≤ i) (hi : i < s.length) (hn : s.length = n) (hd : s.drop (i + 1).toNat = d) (hnn : n ≤ 1048576)  (hk0 : 0 ≤ k) (hkB : k + (5) ≤ B) (hB : B ≤ 4611686018427387904) : Tot (laws_markCallerS_10 k i s) Q := by
  have hni : Int.toNat i < s.length := by omega
  rw [laws_markCallerS_10_eq]
  have ex11 : wrap64 (k + 1) = k + 1 := w64 (by omega) (by omega)
  try simp only [cond_dec, if_pos hi0, if_pos hi, List.length_set, List.set_set, rd_set _ _ _ hni, ex11]
  rw [mt_eq (k + 1) (by omega) (by omega), Option.bind_some]
  try simp only [cond_dec, if_pos hi0, if_pos hi, List.length_set, List.set_set, rd_set _ _ _ hni]
  exact laws_markCallerS_12_h L (k + 1) _ hi0 (by simp only [List.length_set] <;> exact hi) (by simp only [List.length_set] <;> exact hn) (by rw [drop_set _ _ _ hi0] <;> exact hd) hnn  (by omega) (by first | omega | (rw [rd_set _ _ _ hni]; dsimp only; omega)) hB
theorem laws_markCallerS_8_h {Q : _ → Prop} {B : Int} {n : Nat} {d : List impl_Caller} {i : Int} (L : ∀ (k : Int) (s : List impl_Caller), s.length = n → s.drop (i + 1).toNat = d → 0 ≤ k → k ≤ B → Tot (laws_markCallerS_2 k (i + 1) s) Q)
    (k : Int) (s : List impl_Caller) (hi0 : 0 ≤ i) (hi : i < s.length) (hn : s.length = n) (hd : s.drop (i + 1).toNat = d) (hnn : n ≤ 1048576)  (hk0 : 0 ≤ k) (hkB : k + (6) ≤ B) (hB : B ≤ 4611686018427387904) : Tot (laws_markCallerS_8 k i s) Q := by
  have hni : Int.toNat i < s.length := by omega
  rw [laws_markCallerS_8_eq]
  have ex11 : wrap64 (k + 1) = k + 1 := w64 (by omega) (by omega)
  try simp only [cond_dec, if_pos hi0, if_pos hi, List.length_set, List.set_set, rd_set _ _ _ hni, ex11]
  exact laws_markCallerS_10_h L (k + 1) _ hi0 (by simp only [List.length_set] <;> exact hi) (by simp only [List.length_set] <;> exact hn) (by rw [drop_set _ _ _ hi0] <;> exact hd) hnn  (by omega) (by first | omega | (rw [rd_set _ _ _ hni]; dsimp only; omega)) hB
theorem laws_markCallerS_6_h {Q : _ → Prop} {B : Int} {n : Nat} {d : List impl_Caller} {i : Int} (L : ∀ (k : Int) (s : List impl_Caller), s.length = n → s.drop (i + 1).toNat = d → 0 ≤ k → k ≤ B → Tot (laws_markCallerS_2 k (i + 1) s) Q)
    (k : Int) (s : List impl_Caller) (hi0 : 0 ≤ i) (hi : i < s.length) (hn : s.length = n) (hd : s.drop (i + 1).toNat = d) (hnn : n ≤ 1048576)  (hk0 : 0 ≤ k) (hkB : k + (7) ≤ B) (hB : B ≤ 4611686018427387904) : Tot (laws_markCallerS_6 k i s) Q := by
  have hni : Int.toNat i < s.length := by omega
  rw [laws_markCallerS_6_eq]
  have ex11 : wrap64 (k + 1) = k + 1 := w64 (by omega) (by omega)
  try simp only [cond_dec, if_pos hi0, if_pos hi, List.length_set, List.set_set, rd_set _ _ _ hni, ex11]
  exact laws_markCallerS_8_h L (k + 1) _ hi0 (by simp only [List.length_set] <;> exact hi) (by simp only [List.length_set] <;> exact hn) (by rw [drop_set _ _ _ hi0] <;> exact hd) hnn  (by omega) (by first | omega | (rw [rd_set _ _ _ hni]; dsimp only; omega)) hB
theorem laws_markCallerS_5_h {Q : _ → Prop} {B : Int} {n : Nat} {d : List impl_Caller} {i : Int} (L : ∀ (k : Int) (s : List impl_Caller), s.length = n → s.drop (i + 1).toNat = d → 0 ≤ k → k ≤ B → Tot (laws_markCallerS_2 k (i + 1) s) Q)
    (k : Int) (s : List impl_Caller) (hi0 : 0 ≤ i) (hi : i < s.length) (hn : s.length = n) (hd : s.drop (i + 1).toNat = d) (hnn : n ≤ 1048576)  (hk0 : 0 ≤ k) (hkB : k + (7) ≤ B) (hB : B ≤ 4611686018427387904) : Tot (laws_markCallerS_5 k i s) Q := by
  have hni : Int.toNat i < s.length := by omega
  rw [laws_markCallerS_5_eq]
  try simp only [cond_dec, if_pos hi0, if_pos hi, List.length_set, List.set_set, rd_set _ _ _ hni]
  exact laws_markCallerS_6_h L (k) _ hi0 (by simp only [List.length_set] <;> exact hi) (by simp only [List.length_set] <;> exact hn) (by rw [drop_set _ _ _ hi0] <;> exact hd) hnn  (by omega) (by first | omega | (rw [rd_set _ _ _ hni]; dsimp only; omega)) hB
theorem markCallerS_l (M : Int) (hM : M ≤ 4611686018427387904) : ∀ (j : Nat) (k i : Int) (s : List impl_Caller), i + j = s.length → 0 ≤ i → s.length ≤ 1048576 → (∀ x ∈ s.drop i.toNat, Sm_impl_Caller x) → 0 ≤ k → k + j * 3145735 ≤ M → Tot (laws_markCallerS_2 k i s) (fun r => 0 ≤ r.1 ∧ r.1 ≤ M)
  | 0, k, i, s, hj, hi0, hnn, hp, hk0, hkM => by
    rw [laws_markCallerS_2_eq, cond_dec, if_neg (by omega)]
    exact Tot.val ⟨hk0, by show k ≤ M; omega⟩
  | j + 1, k, i, s, hj, hi0, hnn, hp, hk0, hkM => by
    have hi : i < s.length := by omega
    have hni : Int.toNat i < s.length := by omega
    have hn : s.length = s.length := rfl
    have hd : s.drop (i + 1).toNat = s.drop (i + 1).toNat := rfl
    have hB : M - (j : Int) * 3145735 ≤ 4611686018427387904 := by omega
    have hkB : k + 3145735 ≤ M - (j : Int) * 3145735 := by omega
    have hq : Sm_impl_Caller (rdAt s (Int.toNat i) z_impl_Caller) := hp _ (rd_in hi0 hi)
    have L : ∀ (k2 : Int) (s2 : List impl_Caller), s2.length = s.length → s2.drop (i + 1).toNat = s.drop (i + 1).toNat → 0 ≤ k2 → k2 ≤ M - (j : Int) * 3145735 → Tot (laws_markCallerS_2 k2 (i + 1) s2) (fun r => 0 ≤ r.1 ∧ r.1 ≤ M) := fun k2 s2 h1 h2 h3 h4 => markCallerS_l M hM j k2 (i + 1) s2 (by omega) (by omega) (by omega) (by rw [h2]; exact fun x hx => hp x (drop_mem hi0 hx)) h3 (by omega)
    rw [laws_markCallerS_2_eq]
    try simp only [cond_dec, if_pos hi0, if_pos hi, List.length_set, List.set_set, rd_set _ _ _ hni]
    have lr1 := hq.1.1
    refine (markRouteS_t _ (k) hq.1 (by omega) (by omega)).bind fun r1 hr1 => ?_
    obtain ⟨hr1a, hr1b⟩ := hr1
    try simp only [cond_dec, if_pos hi0, if_pos hi, List.length_set, List.set_set, rd_set _ _ _ hni]
    exact laws_markCallerS_5_h L (r1.1) _ hi0 (by simp only [List.length_set] <;> exact hi) (by simp only [List.length_set] <;> exact hn) (by rw [drop_set _ _ _ hi0] <;> exact hd) hnn  (by omega) (by first | omega | (rw [rd_set _ _ _ hni]; dsimp only; omega)) hB
theorem markCallerS_t (s : List impl_Caller) (k : Int) (hs : SmL Sm_impl_Caller s) (h0 : 0 ≤ k) (h1 : k + 3145735 * s.length ≤ 4611686018427387904) : Tot (laws_markCallerS s k) (fun r => 0 ≤ r.1 ∧ r.1 ≤ k + 3145735 * s.length) := by
  have := hs.1
  rw [laws_markCallerS_eq]
  exact markCallerS_l (k + 3145735 * s.length) (by omega) s.length k 0 s (by omega) (by omega) hs.1 hs.2 h0 (by omega)

theorem laws_markAnswerS_17_h {Q : _ → Prop} {B : Int} {n : Nat} {d : List impl_Answer} {i : Int} (L : ∀ (k : Int) (s : List impl_Answer), s.length = n → s.drop (i + 1).toNat = d → 0 ≤ k → k ≤ B → Tot (laws_markAnswerS_2 k (i + 1) s) Q)
    (k : Int) (s : List impl_Answer) (hi0 : 0 ≤ i) (hi : i < s.length) (hn : s.length = n) (hd : s.drop (i + 1).toNat = d) (hnn : n ≤ 1048576)  (hk0 : 0 ≤ k) (hkB : k + (1) ≤ B) (hB : B ≤ 4611686018427387904) : Tot (laws_markAnswerS_17 k i s) Q := by
  have hni : Int.toNat i < s.length := by omega
  rw [laws_markAnswerS_17_eq]
  have ex11 : wrap64 (k + 1) = k + 1 := w64 (by omega) (by omega)
  try simp only [cond_dec, if_pos hi0, if_pos hi, List.length_set, List.set_set, rd_set _ _ _ hni, ex11]
  rw [w64 (n := i + 1) (by omega) (by omega)]
  exact L _ _ hn hd (by omega) (by omega)
theorem laws_markAnswerS_15_h {Q : _ → Prop} {B : Int} {n : Nat} {d : List impl_Answer} {i : Int} (L : ∀ (k : Int) (s : List impl_Answer), s.length = n → s.drop (i + 1).toNat = d → 0 ≤ k → k ≤ B → Tot (laws_markAnswerS_2 k (i + 1) s) Q)
    (k : Int) (s : List impl_Answer) (hi0 : 0 ≤ i) (hi : i < s.length) (hn : s.length = n) (hd : s.drop (i + 1).toNat = d) (hnn : n ≤ 1048576)  (hk0 : 0 ≤ k) (hkB : k + (2) ≤ B) (hB : B ≤ 4611686018427387904) : Tot (laws_markAnswerS_15 k i s) Q := by
  have hni : Int.toNat i < s.length := by omega
  rw [laws_markAnswerS_15_eq]
  have ex11 : wrap64 (k + 1) = k + 1 := w64 (by omega) (by omega)
  try simp only [cond_dec, if_pos hi0, if_pos hi, List.length_set, List.set_set, rd_set _ _ _ hni, ex11]
  exact laws_markAnswerS_17_h L (k + 1) _ hi0 (by simp only [List.length_set] <;> exact hi) (by simp only [List.length_set] <;> exact hn) (by rw [drop_set _ _ _ hi0] <;> exact hd) hnn  (by omega) (by first | omega | (rw [rd_set _ _ _ hni]; dsimp only; omega)) hB
theorem laws_markAnswerS_13_h {Q : _ → Prop} {B : Int} {n : Nat} {d : List impl_Answer} {i : Int} (L : ∀ (k : Int) (s : List impl_Answer), s.length = n → s.drop (i + 1).toNat = d → 0 ≤ k → k ≤ B → Tot (laws_markAnswerS_2 k (i + 1) s) Q)
    (k : Int) (s : List impl_Answer) (hi0 : 0 ≤ i) (hi : i < s.length) (hn : s.length = n) (hd : s.drop (i + 1).toNat = d) (hnn : n ≤ 1048576)  (hk0 : 0 ≤ k) (hkB : k + (3) ≤ B) (hB : B ≤ 4611686018427387904) : Tot (laws_markAnswerS_13 k i s) Q := by
  have hni : Int.toNat i < s.length := by omega
  rw [laws_markAnswerS_13_eq]
  have ex11 : wrap64 (k + 1) = k + 1 := w64 (by omega) (by omega)
  try simp only [cond_dec, if_pos hi0, if_pos hi, List.length_set, List.set_set, rd_set _ _ _ hni, ex11]
  exact laws_markAnswerS_15_h L (k + 1) _ hi0 (by simp only [List.length_set] <;> exact hi) (by simp only [List.length_set] <;> exact hn) (by rw [drop_set _ _ _ hi0] <;> exact hd) hnn  (by omega) (by first | omega | (rw [rd_set _ _ _ hni]; dsimp only; omega)) hB
theorem laws_markAnswerS_11_h {Q : _ → Prop} {B : Int} {n : Nat} {d : List impl_Answer} {i : Int} (L : ∀ (k : Int) (s : List impl_Answer), s.length = n → s.drop (i + 1).toNat = d → 0 ≤ k → k ≤ B → Tot (laws_markAnswerS_2 k (i + 1) s) Q)
    (k : Int) (s : List impl_Answer) (hi0 : 0 ≤ i) (hi : i < s.length) (hn : s.length = n) (hd : s.drop (i + 1).toNat = d) (hnn : n ≤ 1048576)  (hk0 : 0 ≤ k) (hkB : k + (4) ≤ B) (hB : B ≤ 4611686018427387904) : Tot (laws_markAnswerS_11 k i s) Q := by
  have hni : Int.toNat i < s.length := by omega
  rw [laws_markAnswerS_11_eq]
  have ex11 : wrap64 (k + 1) = k + 1 := w64 (by omega) (by omega)
  try simp only [cond_dec, if_pos hi0, if_pos hi, List.length_set, List.set_set, rd_set _ _ _ hni, ex11]
  exact laws_markAnswerS_13_h L (k + 1) _ hi0 (by simp only [List.length_set] <;> exact hi) (by simp only [List.length_set] <;> exact hn) (by rw [drop_set _ _ _ hi0] <;> exact hd) hnn  (by omega) (by first | omega | (rw [rd_set _ _ _ hni]; dsimp only; omega)) hB
theorem laws_markAnswerS_9_h {Q : _ → Prop} {B : Int} {n : Nat} {d : List impl_Answer} {i : Int} (L : ∀ (k : Int) (s : List impl_Answer), s.length = n → s.drop (i + 1).toNat = d → 0 ≤ k → k ≤ B → Tot (laws_markAnswerS_2 k (i + 1) s) Q)
    (k : Int) (s : List impl_Answer) (hi0 : 0 ≤ i) (hi : i < s.length) (hn : s.length = n) (hd : s.drop (i + 1).toNat = d) (hnn : n ≤ 1048576)  (hk0 : 0 ≤ k) (hkB : k + (5) ≤ B) (hB : B ≤ 4611686018427387904) : Tot (laws_markAnswerS_9 k i s) Q := by
  have hni : Int.toNat i < s.length := by omega
  rw [laws_markAnswerS_9_eq]
  have ex11 : wrap64 (k + 1) = k + 1 := w64 (by omega) (by omega)
  try simp only [cond_dec, if_pos hi0, if_pos hi, List.length_set, List.set_set, rd_set _ _ _ hni, ex11]
  rw [mt_eq (k + 1) (by omega) (by omega), Option.bind_some]
  try simp only [cond_dec, if_pos hi0, if_pos hi, List.length_set, List.set_set, rd_set _ _ _ hni]
  exact laws_markAnswerS_11_h L (k + 1) _ hi0 (by simp only [List.length_set] <;> exact hi) (by simp only [List.length_set] <;> exact hn) (by rw [drop_set _ _ _ hi0] <;> exact hd) hnn  (by omega) (by first | omega | (rw [rd_set _ _ _ hni]; dsimp only; omega)) hB
theorem laws_markAnswerS_7_h {Q : _ → Prop} {B : Int} {n : Nat} {d : List impl_Answer} {i : Int} (L : ∀ (k : Int) (s : List impl_Answer), s.length = n → s.drop (i + 1).toNat = d → 0 ≤ k → k ≤ B → Tot (laws_markAnswerS_2 k (i + 1) s) Q)
    (k : Int) (s : List impl_Answer) (hi0 : 0 ≤ i) (hi : i < s.length) (hn : s.length = n) (hd : s.drop (i + 1).toNat = d) (hnn : n ≤ 1048576)  (hk0 : 0 ≤ k) (hkB : k + (6) ≤ B) (hB : B ≤ 4611686018427387904) : Tot (laws_markAnswerS_7 k i s) Q := by
  have hni : Int.toNat i < s.length := by omega
  rw [laws_markAnswerS_7_eq]
  have ex11 : wrap64 (k + 1) = k + 1 := w64 (by omega) (by omega)
  try simp only [cond_dec, if_pos hi0, if_pos hi, List.length_set, List.set_set, rd_set _ _ _ hni, ex11]
  exact laws_markAnswerS_9_h L (k + 1) _ hi0 (by simp only [List.length_set] <;> exact hi) (by simp only [List.length_set] <;> exact hn) (by rw [drop_set _ _ _ hi0] <;> exact hd) hnn  (by omega) (by first | omega | (rw [rd_set _ _ _ hni]; dsimp only; omega)) hB
theorem laws_markAnswerS_5_h {Q : _ → Prop} {B : Int} {n : Nat} {d : List impl_Answer} {i : Int} (L : ∀ (k : Int) (s : List impl_Answer), s.length = n → s.drop (i + 1).toNat = d → 0 ≤ k → k ≤ B → Tot (laws_markAnswerS_2 k (i + 1) s) Q)
    (k : Int) (s : List impl_Answer) (hi0 : 0 ≤ i) (hi : i < s.length) (hn : s.length = n) (hd : s.drop (i + 1).toNat = d) (hnn : n ≤ 1048576)  (hk0 : 0 ≤ k) (hkB : k + (7) ≤ B) (hB : B ≤ 4611686018427387904) : Tot (laws_markAnswerS_5 k i s) Q := by
  have hni : Int.toNat i < s.length := by omega
  rw [laws_markAnswerS_5_eq]
  have ex11 : wrap64 (k + 1) = k + 1 := w64 (by omega) (by omega)
  try simp only [cond_dec, if_pos hi0, if_pos hi, List.length_set, List.set_set, rd_set _ _ _ hni, ex11]
  exact laws_markAnswerS_7_h L (k + 1) _ hi0 (by simp only [List.length_set] <;> exact hi) (by simp only [List.length_set] <;> exact hn) (by rw [drop_set _ _ _ hi0] <;> exact hd) hnn  (by omega) (by first | omega | (rw [rd_set _ _ _ hni]; dsimp only; omega)) hB
theorem markAnswerS_l (M : Int) (hM : M ≤ 4611686018427387904) : ∀ (j : Nat) (k i : Int) (s : List impl_Answer), i + j = s.length → 0 ≤ i → s.length ≤ 1048576 → (∀ x ∈ s.drop i.toNat, (fun _ => True) x) → 0 ≤ k → k + j * 7 ≤ M → Tot (laws_markAnswerS_2 k i s) (fun r => 0 ≤ r.1 ∧ r.1 ≤ M)
  | 0, k, i, s, hj, hi0, hnn, hp, hk0, hkM => by
    rw [laws_markAnswerS_2_eq, cond_dec, if_neg (by omega)]
    exact Tot.val ⟨hk0, by show k ≤ M; omega⟩
  | j + 1, k, i, s, hj, hi0, hnn, hp, hk0, hkM => by
    have hi : i < s.length := by omega
    have hni : Int.toNat i < s.length := by omega
    have hn : s.length = s.length := rfl
    have hd : s.drop (i + 1).toNat = s.drop (i + 1).toNat := rfl
    have hB : M - (j : Int) * 7 ≤ 4611686018427387904 := by omega
    have hkB : k + 7 ≤ M - (j : Int) * 7 := by omega
    have L : ∀ (k2 : Int) (s2 : List impl_Answer), s2.length = s.length → s2.drop (i + 1).toNat = s.drop (i + 1).toNat → 0 ≤ k2 → k2 ≤ M - (j : Int) * 7 → Tot (laws_markAnswerS_2 k2 (i + 1) s2) (fun r => 0 ≤ r.1 ∧ r.1 ≤ M) := fun k2 s2 h1 h2 h3 h4 => markAnswerS_l M hM j k2 (i + 1) s2 (by omega) (by omega) (by omega) (by rw [h2]; exact fun x hx => hp x (drop_mem hi0 hx)) h3 (by omega)
    rw [laws_markAnswerS_2_eq]
    try simp only [cond_dec, if_pos hi0, if_pos hi, List.length_set, List.set_set, rd_set _ _ _ hni]
    exact laws_markAnswerS_5_h L (k) _ hi0 (by simp only [List.length_set] <;> exact hi) (by simp only [List.length_set] <;> exact hn) (by rw [drop_set _ _ _ hi0] <;> exact hd) hnn  (by omega) (by first | omega | (rw [rd_set _ _ _ hni]; dsimp only; omega)) hB
theorem markAnswerS_t (s : List impl_Answer) (k : Int) (hs : SmL (fun _ => True) s) (h0 : 0 ≤ k) (h1 : k + 7 * s.length ≤ 4611686018427387904) : Tot (laws_markAnswerS s k) (fun r => 0 ≤ r.1 ∧ r.1 ≤ k + 7 * s.length) := by
  have := hs.1
  rw [laws_markAnswerS_eq]
  exact markAnswerS_l (k + 7 * s.length) (by omega) s.length k 0 s (by omega) (by omega) hs.1 hs.2 h0 (by omega)

theorem laws_markEntryS_15_h {Q : _ → Prop} {B : Int} {n : Nat} {d : List impl_Entry} {i : Int} (L : ∀ (k : Int) (s : List impl_Entry), s.length = n → s.drop (i + 1).toNat = d → 0 ≤ k → k ≤ B → Tot (laws_markEntryS_2 k (i + 1) s) Q)
    (k : Int) (s : List impl_Entry) (hi0 : 0 ≤ i) (hi : i < s.length) (hn : s.length = n) (hd : s.drop (i + 1).toNat = d) (hnn : n ≤ 1048576)  (hk0 : 0 ≤ k) (hkB : k + (1) ≤ B) (hB : B ≤ 4611686018427387904) : Tot (laws_markEntryS_15 k i s) Q := by
  have hni : Int.toNat i < s.length := by omega
  rw [laws_markEntryS_15_eq]
  have ex11 : wrap64 (k + 1) = k + 1 := w64 (by omega) (by omega)
  try simp only [cond_dec, if_pos hi0, if_pos hi, List.length_set, List.set_set, rd_set _ _ _ hni, ex11]
  rw [w64 (n := i + 1) (by omega) (by omega)]
  exact L _ _ hn hd (by omega) (by omega)
theorem laws_markEntryS_13_h {Q : _ → Prop} {B : Int} {n : Nat} {d : List impl_Entry} {i : Int} (L : ∀ (k : Int) (s : List impl_Entry), s.length = n → s.drop (i + 1).toNat = d → 0 ≤ k → k ≤ B → Tot (laws_markEntryS_2 k (i + 1) s) Q)
    (k : Int) (s : List impl_Entry) (hi0 : 0 ≤ i) (hi : i < s.length) (hn : s.length = n) (hd : s.drop (i + 1).toNat = d) (hnn : n ≤ 1048576)  (hk0 : 0 ≤ k) (hkB : k + (2) ≤ B) (hB : B ≤ 4611686018427387904) : Tot (laws_markEntryS_13 k i s) Q := by
  have hni : Int.toNat i < s.length := by omega
  rw [laws_markEntryS_13_eq]
  have ex11 : wrap64 (k + 1) = k + 1 := w64 (by omega) (by omega)
  try simp only [cond_dec, if_pos hi0, if_pos hi, List.length_set, List.set_set, rd_set _ _ _ hni, ex11]
  exact laws_markEntryS_15_h L (k + 1) _ hi0 (by simp only [List.length_set] <;> exact hi) (by simp only [List.length_set] <;> exact hn) (by rw [drop_set _ _ _ hi0] <;> exact hd) hnn  (by omega) (by first | omega | (rw [rd_set _ _ _ hni]; dsimp only; omega)) hB
theorem laws_markEntryS_11_h {Q : _ → Prop} {B : Int} {n : Nat} {d : List impl_Entry} {i : Int} (L : ∀ (k : Int) (s : List impl_Entry), s.length = n → s.drop (i + 1).toNat = d → 0 ≤ k → k ≤ B → Tot (laws_markEntryS_2 k (i + 1) s) Q)
    (k : Int) (s : List impl_Entry) (hi0 : 0 ≤ i) (hi : i < s.length) (hn : s.length = n) (hd : s.drop (i + 1).toNat = d) (hnn : n ≤ 1048576)  (hk0 : 0 ≤ k) (hkB : k + (3) ≤ B) (hB : B ≤ 4611686018427387904) : Tot (laws_markEntryS_11 k i s) Q := by
  have hni : Int.toNat i < s.length := by omega
  rw [laws_markEntryS_11_eq]
  have ex11 : wrap64 (k + 1) = k + 1 := w64 (by omega) (by omega)
  try simp only [cond_dec, if_pos hi0, if_pos hi, List.length_set, List.set_set, rd_set _ _ _ hni, ex11]
  exact laws_markEntryS_13_h L (k + 1) _ hi0 (by simp only [List.length_set] <;> exact hi) (by simp only [List.length_set] <;> exact hn) (by rw [drop_set _ _ _ hi0] <;> exact hd) hnn  (by omega) (by first | omega | (rw [rd_set _ _ _ hni]; dsimp only; omega)) hB
theorem laws_markEntryS_9_h {Q : _ → Prop} {B : Int} {n : Nat} {d : List impl_Entry} {i : Int} (L : ∀ (k : Int) (s : List impl_Entry), s.length = n → s.drop (i + 1).toNat = d → 0 ≤ k → k ≤ B → Tot (laws_markEntryS_2 k (i + 1) s) Q)
    (k : Int) (s : List impl_Entry) (hi0 : 0 ≤ i) (hi : i < s.length) (hn : s.length = n) (hd : s.drop (i + 1).toNat = d) (hnn : n ≤ 1048576)  (hk0 : 0 ≤ k) (hkB : k + (4) ≤ B) (hB : B ≤ 4611686018427387904) : Tot (laws_markEntryS_9 k i s) Q := by
  have hni : Int.toNat i < s.length := by omega
  rw [laws_markEntryS_9_eq]
  have ex11 : wrap64 (k + 1) = k + 1 := w64 (by omega) (by omega)
  try simp only [cond_dec, if_pos hi0, if_pos hi, List.length_set, List.set_set, rd_set _ _ _ hni, ex11]
  rw [mt_eq (k + 1) (by omega) (by omega), Option.bind_some]
  try simp only [cond_dec, if_pos hi0, if_pos hi, List.length_set, List.set_set, rd_set _ _ _ hni]
  exact laws_markEntryS_11_h L (k + 1) _ hi0 (by simp only [List.length_set] <;> exact hi) (by simp only [List.length_set] <;> exact hn) (by rw [drop_set _ _ _ hi0] <;> exact hd) hnn  (by omega) (by first | omega | (rw [rd_set _ _ _ hni]; dsimp only; omega)) hB
theorem laws_markEntryS_7_h {Q : _ → Prop} {B : Int} {n : Nat} {d : List impl_Entry} {i : Int} (L : ∀ (k : Int) (s : List impl_Entry), s.length = n → s.drop (i + 1).toNat = d → 0 ≤ k → k ≤ B → Tot (laws_markEntryS_2 k (i + 1) s) Q)
    (k : Int) (s : List impl_Entry) (hi0 : 0 ≤ i) (hi : i < s.length) (hn : s.length = n) (hd : s.drop (i + 1).toNat = d) (hnn : n ≤ 1048576)  (hk0 : 0 ≤ k) (hkB : k + (5) ≤ B) (hB : B ≤ 4611686018427387904) : Tot (laws_markEntryS_7 k i s) Q := by
  have hni : Int.toNat i < s.length := by omega
  rw [laws_markEntryS_7_eq]
  have ex11 : wrap64 (k + 1) = k + 1 := w64 (by omega) (by omega)
  try simp only [cond_dec, if_pos hi0, if_pos hi, List.length_set, List.set_set, rd_set _ _ _ hni, ex11]
  exact laws_markEntryS_9_h L (k + 1) _ hi0 (by simp only [List.length_set] <;> exact hi) (by simp only [List.length_set] <;> exact hn) (by rw [drop_set _ _ _ hi0] <;> exact hd) hnn  (by omega) (by first | omega | (rw [rd_set _ _ _ hni]; dsimp only; omega)) hB
theorem laws_markEntryS_5_h {Q : _ → Prop} {B : Int} {n : Nat} {d : List impl_Entry} {i : Int} (L : ∀ (k : Int) (s : List impl_Entry), s.length = n → s.drop (i + 1).toNat = d → 0 ≤ k → k ≤ B → Tot (laws_markEntryS_2 k (i + 1) s) Q)
    (k : Int) (s : List impl_Entry) (hi0 : 0 ≤ i) (hi : i < s.length) (hn : s.length = n) (hd : s.drop (i + 1).toNat = d) (hnn : n ≤ 1048576)  (hk0 : 0 ≤ k) (hkB : k + (6) ≤ B) (hB : B ≤ 4611686018427387904) : Tot (laws_markEntryS_5 k i s) Q := by
  have hni : Int.toNat i < s.length := by omega
  rw [laws_markEntryS_5_eq]
  have ex11 : wrap64 (k + 1) = k + 1 := w64 (by omega) (by omega)
  try simp only [cond_dec, if_pos hi0, if_pos hi, List.length_set, List.set_set, rd_set _ _ _ hni, ex11]
  exact laws_markEntryS_7_h L (k + 1) _ hi0 (by simp only [List.length_set] <;> exact hi) (by simp only [List.length_set] <;> exact hn) (by rw [drop_set _ _ _ hi0] <;> exact hd) hnn  (by omega) (by first | omega | (rw [rd_set _ _ _ hni]; dsimp only; omega)) hB
theorem markEntryS_l (M : Int) (hM : M ≤ 4611686018427387904) : ∀ (j : Nat) (k i : Int) (s : List impl_Entry), i + j = s.length → 0 ≤ i → s.length ≤ 1048576 → (∀ x ∈ s.drop i.toNat, (fun _ => True) x) → 0 ≤ k → k + j * 6 ≤ M → Tot (laws_markEntryS_2 k i s) (fun r => 0 ≤ r.1 ∧ r.1 ≤ M)
  | 0, k, i, s, hj, hi0, hnn, hp, hk0, hkM => by
    rw [laws_markEntryS_2_eq, cond_dec, if_neg (by omega)]
    exact Tot.val ⟨hk0, by show k ≤ M; omega⟩
  | j + 1, k, i, s, hj, hi0, hnn, hp, hk0, hkM => by
    have hi : i < s.length := by omega
    have hni : Int.toNat i < s.length := by omega
    have hn : s.length = s.length := rfl
    have hd : s.drop (i + 1).toNat = s.drop (i + 1).toNat := rfl
    have hB : M - (j : Int) * 6 ≤ 4611686018427387904 := by omega
    have hkB : k + 6 ≤ M - (j : Int) * 6 := by omega
    have L : ∀ (k2 : Int) (s2 : List impl_Entry), s2.length = s.length → s2.drop (i + 1).toNat = s.drop (i + 1).toNat → 0 ≤ k2 → k2 ≤ M - (j : Int) * 6 → Tot (laws_markEntryS_2 k2 (i + 1) s2) (fun r => 0 ≤ r.1 ∧ r.1 ≤ M) := fun k2 s2 h1 h2 h3 h4 => markEntryS_l M hM j k2 (i + 1) s2 (by omega) (by omega) (by omega) (by rw [h2]; exact fun x hx => hp x (drop_mem hi0 hx)) h3 (by omega)
    rw [laws_markEntryS_2_eq]
    try simp only [cond_dec, if_pos hi0, if_pos hi, List.length_set, List.set_set, rd_set _ _ _ hni]
    exact laws_markEntryS_5_h L (k) _ hi0 (by simp only [List.length_set] <;> exact hi) (by simp only [List.length_set] <;> exact hn) (by rw [drop_set _ _ _ hi0] <;> exact hd) hnn  (by omega) (by first | omega | (rw [rd_set _ _ _ hni]; dsimp only; omega)) hB
theorem markEntryS_t (s : List impl_Entry) (k : Int) (hs : SmL (fun _ => True) s) (h0 : 0 ≤ k) (h1 : k + 6 * s.length ≤ 4611686018427387904) : Tot (laws_markEntryS s k) (fun r => 0 ≤ r.1 ∧ r.1 ≤ k + 6 * s.length) := by
  have := hs.1
  rw [laws_markEntryS_eq]
  exact markEntryS_l (k + 6 * s.length) (by omega) s.length k 0 s (by omega) (by omega) hs.1 hs.2 h0 (by omega)

theorem markIntS_l (M : Int) (hM : M ≤ 4611686018427387904) : ∀ (j : Nat) (k i : Int) (s : List Int), i + j = s.length → 0 ≤ i → s.length ≤ 1048576 → (∀ x ∈ s.drop i.toNat, (fun _ => True) x) → 0 ≤ k → k + j * 1 ≤ M → Tot (laws_markIntS_2 k i s) (fun r => 0 ≤ r.1 ∧ r.1 ≤ M)
  | 0, k, i, s, hj, hi0, hnn, hp, hk0, hkM => by
    rw [laws_markIntS_2_eq, cond_dec, if_neg (by omega)]
    exact Tot.val ⟨hk0, by show k ≤ M; omega⟩
  | j + 1, k, i, s, hj, hi0, hnn, hp, hk0, hkM => by
    have hi : i < s.length := by omega
    have hni : Int.toNat i < s.length := by omega
    have hn : s.length = s.length := rfl
    have hd : s.drop (i + 1).toNat = s.drop (i + 1).toNat := rfl
    have hB : M - (j : Int) * 1 ≤ 4611686018427387904 := by omega
    have hkB : k + 1 ≤ M - (j : Int) * 1 := by omega
    have L : ∀ (k2 : Int) (s2 : List Int), s2.length = s.length → s2.drop (i + 1).toNat = s.drop (i + 1).toNat → 0 ≤ k2 → k2 ≤ M - (j : Int) * 1 → Tot (laws_markIntS_2 k2 (i + 1) s2) (fun r => 0 ≤ r.1 ∧ r.1 ≤ M) := fun k2 s2 h1 h2 h3 h4 => markIntS_l M hM j k2 (i + 1) s2 (by omega) (by omega) (by omega) (by rw [h2]; exact fun x hx => hp x (drop_mem hi0 hx)) h3 (by omega)
    rw [laws_markIntS_2_eq]
    have ex11 : wrap64 (k + 1) = k + 1 := w64 (by omega) (by omega)
    try simp only [cond_dec, if_pos hi0, if_pos hi, List.length_set, List.set_set, rd_set _ _ _ hni, ex11]
    rw [w64 (n := i + 1) (by omega) (by omega)]
    exact L _ _ (by simp only [List.length_set] <;> exact hn) (by rw [drop_set _ _ _ hi0] <;> exact hd) (by omega) (by omega)
theorem markIntS_t (s : List Int) (k : Int) (hs : SmL (fun _ => True) s) (h0 : 0 ≤ k) (h1 : k + 1 * s.length ≤ 4611686018427387904) : Tot (laws_markIntS s k) (fun r => 0 ≤ r.1 ∧ r.1 ≤ k + 1 * s.length) := by
  have := hs.1
  rw [laws_markIntS_eq]
  exact markIntS_l (k + 1 * s.length) (by omega) s.length k 0 s (by omega) (by omega) hs.1 hs.2 h0 (by omega)

theorem laws_markMessageS_3_h {Q : _ → Prop} {B : Int} {n : Nat} {d : List impl_Message} {i : Int} (L : ∀ (k : Int) (s : List impl_Message), s.length = n → s.drop (i + 1).toNat = d → 0 ≤ k → k ≤ B → Tot (laws_markMessageS_2 k (i + 1) s) Q)
    (k : Int) (s : List impl_Message) (hi0 : 0 ≤ i) (hi : i < s.length) (hn : s.length = n) (hd : s.drop (i + 1).toNat = d) (hnn : n ≤ 1048576)  (hk0 : 0 ≤ k) (hkB : k + (0) ≤ B) (hB : B ≤ 4611686018427387904) : Tot (laws_markMessageS_3 k i s) Q := by
  have hni : Int.toNat i < s.length := by omega
  rw [laws_markMessageS_3_eq]
  try simp only [cond_dec, if_pos hi0, if_pos hi, List.length_set, List.set_set, rd_set _ _ _ hni]
  rw [w64 (n := i + 1) (by omega) (by omega)]
  exact L _ _ hn hd (by omega) (by omega)
theorem laws_markMessageS_14_h {Q : _ → Prop} {B : Int} {n : Nat} {d : List impl_Message} {i : Int} (L : ∀ (k : Int) (s : List impl_Message), s.length = n → s.drop (i + 1).toNat = d → 0 ≤ k → k ≤ B → Tot (laws_markMessageS_2 k (i + 1) s) Q)
    (k : Int) (s : List impl_Message) (hi0 : 0 ≤ i) (hi : i < s.length) (hn : s.length = n) (hd : s.drop (i + 1).toNat = d) (hnn : n ≤ 1048576) (pLog : SmL (fun _ => True) (rdAt s (Int.toNat i) z_impl_Message).Log) (hk0 : 0 ≤ k) (hkB : k + (6291457) ≤ B) (hB : B ≤ 4611686018427387904) : Tot (laws_markMessageS_14 k i s) Q := by
  have hni : Int.toNat i < s.length := by omega
  rw [laws_markMessageS_14_eq]
  have ex11 : wrap64 (k + 1) = k + 1 := w64 (by omega) (by omega)
  try simp only [cond_dec, if_pos hi0, if_pos hi, List.length_set, List.set_set, rd_set _ _ _ hni, ex11]
  have lr1 := pLog.1
  refine (markEntryS_t _ (k + 1) pLog (by omega) (by omega)).bind fun r1 hr1 => ?_
  obtain ⟨hr1a, hr1b⟩ := hr1
  try simp only [cond_dec, if_pos hi0, if_pos hi, List.length_set, List.set_set, rd_set _ _ _ hni, ex11]
  exact laws_markMessageS_3_h L (r1.1) _ hi0 (by simp only [List.length_set] <;> exact hi) (by simp only [List.length_set] <;> exact hn) (by rw [drop_set _ _ _ hi0] <;> exact hd) hnn  (by omega) (by first | omega | (rw [rd_set _ _ _ hni]; dsimp only; omega)) hB
theorem laws_markMessageS_13_h {Q : _ → Prop} {B : Int} {n : Nat} {d : List impl_Message} {i : Int} (L : ∀ (k : Int) (s : List impl_Message), s.length = n → s.drop (i + 1).toNat = d → 0 ≤ k → k ≤ B → Tot (laws_markMessageS_2 k (i + 1) s) Q)
    (k : Int) (s : List impl_Message) (hi0 : 0 ≤ i) (hi : i < s.length) (hn : s.length = n) (hd : s.drop (i + 1).toNat = d) (hnn : n ≤ 1048576) (pLog : SmL (fun _ => True) (rdAt s (Int.toNat i) z_impl_Message).Log) (hk0 : 0 ≤ k) (hkB : k + (6291457) ≤ B) (hB : B ≤ 4611686018427387904) : Tot (laws_markMessageS_13 k i s) Q := by
  have hni : Int.toNat i < s.length := by omega
  rw [laws_markMessageS_13_eq]
  try simp only [cond_dec, if_pos hi0, if_pos hi, List.length_set, List.set_set, rd_set _ _ _ hni]
  exact laws_markMessageS_14_h L (k) _ hi0 (by simp only [List.length_set] <;> exact hi) (by simp only [List.length_set] <;> exact hn) (by rw [drop_set _ _ _ hi0] <;> exact hd) hnn (by rw [rd_set _ _ _ hni]; exact pLog) (by omega) (by first | omega | (rw [rd_set _ _ _ hni]; dsimp only; omega)) hB
theorem laws_markMessageS_11_h {Q : _ → Prop} {B : Int} {n : Nat} {d : List impl_Message} {i : Int} (L : ∀ (k : Int) (s : List impl_Message), s.length = n → s.drop (i + 1).toNat = d → 0 ≤ k → k ≤ B → Tot (laws_markMessageS_2 k (i + 1) s) Q)
    (k : Int) (s : List impl_Message) (hi0 : 0 ≤ i) (hi : i < s.length) (hn : s.length = n) (hd : s.drop (i + 1).toNat = d) (hnn : n ≤ 1048576) (pConfMembers : SmL (fun _ => True) (rdAt s (Int.toNat i) z_impl_Message).Conf.Members) (pLog : SmL (fun _ => True) (rdAt s (Int.toNat i) z_impl_Message).Log) (hk0 : 0 ≤ k) (hkB : k + (7340034) ≤ B) (hB : B ≤ 4611686018427387904) : Tot (laws_markMessageS_11 k i s) Q := by
  have hni : Int.toNat i < s.length := by omega
  rw [laws_markMessageS_11_eq]
  have ex11 : wrap64 (k + 1) = k + 1 := w64 (by omega) (by omega)
  try simp only [cond_dec, if_pos hi0, if_pos hi, List.length_set, List.set_set, rd_set _ _ _ hni, ex11]
  have lr1 := pConfMembers.1
  refine (markIntS_t _ (k + 1) pConfMembers (by omega) (by omega)).bind fun r1 hr1 => ?_
  obtain ⟨hr1a, hr1b⟩ := hr1
  try simp only [cond_dec, if_pos hi0, if_pos hi, List.length_set, List.set_set, rd_set _ _ _ hni, ex11]
  exact laws_markMessageS_13_h L (r1.1) _ hi0 (by simp only [List.length_set] <;> exact hi) (by simp only [List.length_set] <;> exact hn) (by rw [drop_set _ _ _ hi0] <;> exact hd) hnn (by rw [rd_set _ _ _ hni]; exact pLog) (by omega) (by first | omega | (rw [rd_set _ _ _ hni]; dsimp only; omega)) hB
theorem laws_markMessageS_9_h {Q : _ → Prop} {B : Int} {n : Nat} {d : List impl_Message} {i : Int} (L : ∀ (k : Int) (s : List impl_Message), s.length = n → s.drop (i + 1).toNat = d → 0 ≤ k → k ≤ B → Tot (laws_markMessageS_2 k (i + 1) s) Q)
    (k : Int) (s : List impl_Message) (hi0 : 0 ≤ i) (hi : i < s.length) (hn : s.length = n) (hd : s.drop (i + 1).toNat = d) (hnn : n ≤ 1048576) (pConfMembers : SmL (fun _ => True) (rdAt s (Int.toNat i) z_impl_Message).Conf.Members) (pLog : SmL (fun _ => True) (rdAt s (Int.toNat i) z_impl_Message).Log) (hk0 : 0 ≤ k) (hkB : k + (7340035) ≤ B) (hB : B ≤ 4611686018427387904) : Tot (laws_markMessageS_9 k i s) Q := by
  have hni : Int.toNat i < s.length := by omega
  rw [laws_markMessageS_9_eq]
  have ex11 : wrap64 (k + 1) = k + 1 := w64 (by omega) (by omega)
  try simp only [cond_dec, if_pos hi0, if_pos hi, List.length_set, List.set_set, rd_set _ _ _ hni, ex11]
  exact laws_markMessageS_11_h L (k + 1) _ hi0 (by simp only [List.length_set] <;> exact hi) (by simp only [List.length_set] <;> exact hn) (by rw [drop_set _ _ _ hi0] <;> exact hd) hnn (by rw [rd_set _ _ _ hni]; exact pConfMembers) (by rw [rd_set _ _ _ hni]; exact pLog) (by omega) (by first | omega | (rw [rd_set _ _ _ hni]; dsimp only; omega)) hB
theorem laws_markMessageS_7_h {Q : _ → Prop} {B : Int} {n : Nat} {d : List impl_Message} {i : Int} (L : ∀ (k : Int) (s : List impl_Message), s.length = n → s.drop (i + 1).toNat = d → 0 ≤ k → k ≤ B → Tot (laws_markMessageS_2 k (i + 1) s) Q)
    (k : Int) (s : List impl_Message) (hi0 : 0 ≤ i) (hi : i < s.length) (hn : s.length = n) (hd : s.drop (i + 1).toNat = d) (hnn : n ≤ 1048576) (pConfMembers : SmL (fun _ => True) (rdAt s (Int.toNat i) z_impl_Message).Conf.Members) (pLog : SmL (fun _ => True) (rdAt s (Int.toNat i) z_impl_Message).Log) (hk0 : 0 ≤ k) (hkB : k + (7340036) ≤ B) (hB : B ≤ 4611686018427387904) : Tot (laws_markMessageS_7 k i s) Q := by
  have hni : Int.toNat i < s.length := by omega
  rw [laws_markMessageS_7_eq]
  have ex11 : wrap64 (k + 1) = k + 1 := w64 (by omega) (by omega)
  try simp only [cond_dec, if_pos hi0, if_pos hi, List.length_set, List.set_set, rd_set _ _ _ hni, ex11]
  exact laws_markMessageS_9_h L (k + 1) _ hi0 (by simp only [List.length_set] <;> exact hi) (by simp only [List.length_set] <;> exact hn) (by rw [drop_set _ _ _ hi0] <;> exact hd) hnn (by rw [rd_set _ _ _ hni]; exact pConfMembers) (by rw [rd_set _ _ _ hni]; exact pLog) (by omega) (by first | omega | (rw [rd_set _ _ _ hni]; dsimp only; omega)) hB
theorem laws_markMessageS_5_h {Q : _ → Prop} {B : Int} {n : Nat} {d : List impl_Message} {i : Int} (L : ∀ (k : Int) (s : List impl_Message), s.length = n → s.drop (i + 1).toNat = d → 0 ≤ k → k ≤ B → Tot (laws_markMessageS_2 k (i + 1) s) Q)
    (k : Int) (s : List impl_Message) (hi0 : 0 ≤ i) (hi : i < s.length) (hn : s.length = n) (hd : s.drop (i + 1).toNat = d) (hnn : n ≤ 1048576) (pConfMembers : SmL (fun _ => True) (rdAt s (Int.toNat i) z_impl_Message).Conf.Members) (pLog : SmL (fun _ => True) (rdAt s (Int.toNat i) z_impl_Message).Log) (hk0 : 0 ≤ k) (hkB : k + (7340037) ≤ B) (hB : B ≤ 4611686018427387904) : Tot (laws_markMessageS_5 k i s) Q := by
  have hni : Int.toNat i < s.length := by omega
  rw [laws_markMessageS_5_eq]
  have ex11 : wrap64 (k + 1) = k + 1 := w64 (by omega) (by omega)
  try simp only [cond_dec, if_pos hi0, if_pos hi, List.length_set, List.set_set, rd_set _ _ _ hni, ex11]
  exact laws_markMessageS_7_h L (k + 1) _ hi0 (by simp only [List.length_set] <;> exact hi) (by simp only [List.length_set] <;> exact hn) (by rw [drop_set _ _ _ hi0] <;> exact hd) hnn (by rw [rd_set _ _ _ hni]; exact pConfMembers) (by rw [rd_set _ _ _ hni]; exact pLog) (by omega) (by first | omega | (rw [rd_set _ _ _ hni]; dsimp only; omega)) hB
theorem markMessageS_l (M : Int) (hM : M ≤ 4611686018427387904) : ∀ (j : Nat) (k i : Int) (s : List impl_Message), i + j = s.length → 0 ≤ i → s.length ≤ 1048576 → (∀ x ∈ s.drop i.toNat, Sm_impl_Message x) → 0 ≤ k → k + j * 7340037 ≤ M → Tot (laws_markMessageS_2 k i s) (fun r => 0 ≤ r.1 ∧ r.1 ≤ M)
  | 0, k, i, s, hj, hi0, hnn, hp, hk0, hkM => by
    rw [laws_markMessageS_2_eq, cond_dec, if_neg (by omega)]
    exact Tot.val ⟨hk0, by show k ≤ M; omega⟩
  | j + 1, k, i, s, hj, hi0, hnn, hp, hk0, hkM => by
    have hi : i < s.length := by omega
    have hni : Int.toNat i < s.length := by omega
    have hn : s.length = s.length := rfl
    have hd : s.drop (i + 1).toNat = s.drop (i + 1).toNat := rfl
    have hB : M - (j : Int) * 7340037 ≤ 4611686018427387904 := by omega
    have hkB : k + 7340037 ≤ M - (j : Int) * 7340037 := by omega
    have hq : Sm_impl_Message (rdAt s (Int.toNat i) z_impl_Message) := hp _ (rd_in hi0 hi)
    have L : ∀ (k2 : Int) (s2 : List impl_Message), s2.length = s.length → s2.drop (i + 1).toNat = s.drop (i + 1).toNat → 0 ≤ k2 → k2 ≤ M - (j : Int) * 7340037 → Tot (laws_markMessageS_2 k2 (i + 1) s2) (fun r => 0 ≤ r.1 ∧ r.1 ≤ M) := fun k2 s2 h1 h2 h3 h4 => markMessageS_l M hM j k2 (i + 1) s2 (by omega) (by omega) (by omega) (by rw [h2]; exact fun x hx => hp x (drop_mem hi0 hx)) h3 (by omega)
    rw [laws_markMessageS_2_eq]
    try simp only [cond_dec, if_pos hi0, if_pos hi, List.length_set, List.set_set, rd_set _ _ _ hni]
    exact laws_markMessageS_5_h L (k) _ hi0 (by simp only [List.length_set] <;> exact hi) (by simp only [List.length_set] <;> exact hn) (by rw [drop_set _ _ _ hi0] <;> exact hd) hnn (by rw [rd_set _ _ _ hni]; exact hq.1.1) (by rw [rd_set _ _ _ hni]; exact hq.2.1) (by omega) (by first | omega | (rw [rd_set _ _ _ hni]; dsimp only; omega)) hB
theorem markMessageS_t (s : List impl_Message) (k : Int) (hs : SmL Sm_impl_Message s) (h0 : 0 ≤ k) (h1 : k + 7340037 * s.length ≤ 4611686018427387904) : Tot (laws_markMessageS s k) (fun r => 0 ≤ r.1 ∧ r.1 ≤ k + 7340037 * s.length) := by
  have := hs.1
  rw [laws_markMessageS_eq]
  exact markMessageS_l (k + 7340037 * s.length) (by omega) s.length k 0 s (by omega) (by omega) hs.1 hs.2 h0 (by omega)

theorem markBoolS_l (M : Int) (hM : M ≤ 4611686018427387904) : ∀ (j : Nat) (k i : Int) (s : List Bool), i + j = s.length → 0 ≤ i → s.length ≤ 1048576 → (∀ x ∈ s.drop i.toNat, (fun _ => True) x) → 0 ≤ k → k + j * 1 ≤ M → Tot (laws_markBoolS_2 k i s) (fun r => 0 ≤ r.1 ∧ r.1 ≤ M)
  | 0, k, i, s, hj, hi0, hnn, hp, hk0, hkM => by
    rw [laws_markBoolS_2_eq, cond_dec, if_neg (by omega)]
    exact Tot.val ⟨hk0, by show k ≤ M; omega⟩
  | j + 1, k, i, s, hj, hi0, hnn, hp, hk0, hkM => by
    have hi : i < s.length := by omega
    have hni : Int.toNat i < s.length := by omega
    have hn : s.length = s.length := rfl
    have hd : s.drop (i + 1).toNat = s.drop (i + 1).toNat := rfl
    have hB : M - (j : Int) * 1 ≤ 4611686018427387904 := by omega
    have hkB : k + 1 ≤ M - (j : Int) * 1 := by omega
    have L : ∀ (k2 : Int) (s2 : List Bool), s2.length = s.length → s2.drop (i + 1).toNat = s.drop (i + 1).toNat → 0 ≤ k2 → k2 ≤ M - (j : Int) * 1 → Tot (laws_markBoolS_2 k2 (i + 1) s2) (fun r => 0 ≤ r.1 ∧ r.1 ≤ M) := fun k2 s2 h1 h2 h3 h4 => markBoolS_l M hM j k2 (i + 1) s2 (by omega) (by omega) (by omega) (by rw [h2]; exact fun x hx => hp x (drop_mem hi0 hx)) h3 (by omega)
    rw [laws_markBoolS_2_eq]
    have ex11 : wrap64 (k + 1) = k + 1 := w64 (by omega) (by omega)
    try simp only [cond_dec, if_pos hi0, if_pos hi, List.length_set, List.set_set, rd_set _ _ _ hni, ex11]
    rw [w64 (n := i + 1) (by omega) (by omega)]
    exact L _ _ (by simp only [List.length_set] <;> exact hn) (by rw [drop_set _ _ _ hi0] <;> exact hd) (by omega) (by omega)
theorem markBoolS_t (s : List Bool) (k : Int) (hs : SmL (fun _ => True) s) (h0 : 0 ≤ k) (h1 : k + 1 * s.length ≤ 4611686018427387904) : Tot (laws_markBoolS s k) (fun r => 0 ≤ r.1 ∧ r.1 ≤ k + 1 * s.length) := by
  have := hs.1
  rw [laws_markBoolS_eq]
  exact markBoolS_l (k + 1 * s.length) (by omega) s.length k 0 s (by omega) (by omega) hs.1 hs.2 h0 (by omega)

theorem laws_markReplicaS_3_h {Q : _ → Prop} {B : Int} {n : Nat} {d : List impl_Replica} {i : Int} (L : ∀ (k : Int) (s : List impl_Replica), s.length = n → s.drop (i + 1).toNat = d → 0 ≤ k → k ≤ B → Tot (laws_markReplicaS_2 k (i + 1) s) Q)
    (k : Int) (s : List impl_Replica) (hi0 : 0 ≤ i) (hi : i < s.length) (hn : s.length = n) (hd : s.drop (i + 1).toNat = d) (hnn : n ≤ 1048576)  (hk0 : 0 ≤ k) (hkB : k + (0) ≤ B) (hB : B ≤ 4611686018427387904) : Tot (laws_markReplicaS_3 k i s) Q := by
  have hni : Int.toNat i < s.length := by omega
  rw [laws_markReplicaS_3_eq]
  try simp only [cond_dec, if_pos hi0, if_pos hi, List.length_set, List.set_set, rd_set _ _ _ hni]
  rw [w64 (n := i + 1) (by omega) (by omega)]
  exact L _ _ hn hd (by omega) (by omega)
theorem laws_markReplicaS_10_h {Q : _ → Prop} {B : Int} {n : Nat} {d : List impl_Replica} {i : Int} (L : ∀ (k : Int) (s : List impl_Replica), s.length = n → s.drop (i + 1).toNat = d → 0 ≤ k → k ≤ B → Tot (laws_markReplicaS_2 k (i + 1) s) Q)
    (k : Int) (s : List impl_Replica) (hi0 : 0 ≤ i) (hi : i < s.length) (hn : s.length = n) (hd : s.drop (i + 1).toNat = d) (hnn : n ≤ 1048576) (pLog : SmL (fun _ => True) (rdAt s (Int.toNat i) z_impl_Replica).Log) (hk0 : 0 ≤ k) (hkB : k + (6291457) ≤ B) (hB : B ≤ 4611686018427387904) : Tot (laws_markReplicaS_10 k i s) Q := by
  have hni : Int.toNat i < s.length := by omega
  rw [laws_markReplicaS_10_eq]
  have ex11 : wrap64 (k + 1) = k + 1 := w64 (by omega) (by omega)
  try simp only [cond_dec, if_pos hi0, if_pos hi, List.length_set, List.set_set, rd_set _ _ _ hni, ex11]
  have lr1 := pLog.1
  refine (markEntryS_t _ (k + 1) pLog (by omega) (by omega)).bind fun r1 hr1 => ?_
  obtain ⟨hr1a, hr1b⟩ := hr1
  try simp only [cond_dec, if_pos hi0, if_pos hi, List.length_set, List.set_set, rd_set _ _ _ hni, ex11]
  exact laws_markReplicaS_3_h L (r1.1) _ hi0 (by simp only [List.length_set] <;> exact hi) (by simp only [List.length_set] <;> exact hn) (by rw [drop_set _ _ _ hi0] <;> exact hd) hnn  (by omega) (by first | omega | (rw [rd_set _ _ _ hni]; dsimp only; omega)) hB
theorem laws_markReplicaS_8_h {Q : _ → Prop} {B : Int} {n : Nat} {d : List impl_Replica} {i : Int} (L : ∀ (k : Int) (s : List impl_Replica), s.length = n → s.drop (i + 1).toNat = d → 0 ≤ k → k ≤ B → Tot (laws_markReplicaS_2 k (i + 1) s) Q)
    (k : Int) (s : List impl_Replica) (hi0 : 0 ≤ i) (hi : i < s.length) (hn : s.length = n) (hd : s.drop (i + 1).toNat = d) (hnn : n ≤ 1048576) (pLog : SmL (fun _ => True) (rdAt s (Int.toNat i) z_impl_Replica).Log) (hk0 : 0 ≤ k) (hkB : k + (6291458) ≤ B) (hB : B ≤ 4611686018427387904) : Tot (laws_markReplicaS_8 k i s) Q := by
  have hni : Int.toNat i < s.length := by omega
  rw [laws_markReplicaS_8_eq]
  have ex11 : wrap64 (k + 1) = k + 1 := w64 (by omega) (by omega)
  try simp only [cond_dec, if_pos hi0, if_pos hi, List.length_set, List.set_set, rd_set _ _ _ hni, ex11]
  exact laws_markReplicaS_10_h L (k + 1) _ hi0 (by simp only [List.length_set] <;> exact hi) (by simp only [List.length_set] <;> exact hn) (by rw [drop_set _ _ _ hi0] <;> exact hd) hnn (by rw [rd_set _ _ _ hni]; exact pLog) (by omega) (by first | omega | (rw [rd_set _ _ _ hni]; dsimp only; omega)) hB
theorem laws_markReplicaS_7_h {Q : _ → Prop} {B : Int} {n : Nat} {d : List impl_Replica} {i : Int} (L : ∀ (k : Int) (s : List impl_Replica), s.length = n → s.drop (i + 1).toNat = d → 0 ≤ k → k ≤ B → Tot (laws_markReplicaS_2 k (i + 1) s) Q)
    (k : Int) (s : List impl_Replica) (hi0 : 0 ≤ i) (hi : i < s.length) (hn : s.length = n) (hd : s.drop (i + 1).toNat = d) (hnn : n ≤ 1048576) (pLog : SmL (fun _ => True) (rdAt s (Int.toNat i) z_impl_Replica).Log) (hk0 : 0 ≤ k) (hkB : k + (6291458) ≤ B) (hB : B ≤ 4611686018427387904) : Tot (laws_markReplicaS_7 k i s) Q := by
  have hni : Int.toNat i < s.length := by omega
  rw [laws_markReplicaS_7_eq]
  try simp only [cond_dec, if_pos hi0, if_pos hi, List.length_set, List.set_set, rd_set _ _ _ hni]
  exact laws_markReplicaS_8_h L (k) _ hi0 (by simp only [List.length_set] <;> exact hi) (by simp only [List.length_set] <;> exact hn) (by rw [drop_set _ _ _ hi0] <;> exact hd) hnn (by rw [rd_set _ _ _ hni]; exact pLog) (by omega) (by first | omega | (rw [rd_set _ _ _ hni]; dsimp only; omega)) hB
theorem laws_markReplicaS_5_h {Q : _ → Prop} {B : Int} {n : Nat} {d : List impl_Replica} {i : Int} (L : ∀ (k : Int) (s : List impl_Replica), s.length = n → s.drop (i + 1).toNat = d → 0 ≤ k → k ≤ B → Tot (laws_markReplicaS_2 k (i + 1) s) Q)
    (k : Int) (s : List impl_Replica) (hi0 : 0 ≤ i) (hi : i < s.length) (hn : s.length = n) (hd : s.drop (i + 1).toNat = d) (hnn : n ≤ 1048576) (pConfMembers : SmL (fun _ => True) (rdAt s (Int.toNat i) z_impl_Replica).Conf.Members) (pLog : SmL (fun _ => True) (rdAt s (Int.toNat i) z_impl_Replica).Log) (hk0 : 0 ≤ k) (hkB : k + (7340035) ≤ B) (hB : B ≤ 4611686018427387904) : Tot (laws_markReplicaS_5 k i s) Q := by
  have hni : Int.toNat i < s.length := by omega
  rw [laws_markReplicaS_5_eq]
  have ex11 : wrap64 (k + 1) = k + 1 := w64 (by omega) (by omega)
  try simp only [cond_dec, if_pos hi0, if_pos hi, List.length_set, List.set_set, rd_set _ _ _ hni, ex11]
  have lr1 := pConfMembers.1
  refine (markIntS_t _ (k + 1) pConfMembers (by omega) (by omega)).bind fun r1 hr1 => ?_
  obtain ⟨hr1a, hr1b⟩ := hr1
  try simp only [cond_dec, if_pos hi0, if_pos hi, List.length_set, List.set_set, rd_set _ _ _ hni, ex11]
  exact laws_markReplicaS_7_h L (r1.1) _ hi0 (by simp only [List.length_set] <;> exact hi) (by simp only [List.length_set] <;> exact hn) (by rw [drop_set _ _ _ hi0] <;> exact hd) hnn (by rw [rd_set _ _ _ hni]; exact pLog) (by omega) (by first | omega | (rw [rd_set _ _ _ hni]; dsimp only; omega)) hB
theorem markReplicaS_l (M : Int) (hM : M ≤ 4611686018427387904) : ∀ (j : Nat) (k i : Int) (s : List impl_Replica), i + j = s.length → 0 ≤ i → s.length ≤ 1048576 → (∀ x ∈ s.drop i.toNat, Sm_impl_Replica x) → 0 ≤ k → k + j * 7340035 ≤ M → Tot (laws_markReplicaS_2 k i s) (fun r => 0 ≤ r.1 ∧ r.1 ≤ M)
  | 0, k, i, s, hj, hi0, hnn, hp, hk0, hkM => by
    rw [laws_markReplicaS_2_eq, cond_dec, if_neg (by omega)]
    exact Tot.val ⟨hk0, by show k ≤ M; omega⟩
  | j + 1, k, i, s, hj, hi0, hnn, hp, hk0, hkM => by
    have hi : i < s.length := by omega
    have hni : Int.toNat i < s.length := by omega
    have hn : s.length = s.length := rfl
    have hd : s.drop (i + 1).toNat = s.drop (i + 1).toNat := rfl
    have hB : M - (j : Int) * 7340035 ≤ 4611686018427387904 := by omega
    have hkB : k + 7340035 ≤ M - (j : Int) * 7340035 := by omega
    have hq : Sm_impl_Replica (rdAt s (Int.toNat i) z_impl_Replica) := hp _ (rd_in hi0 hi)
    have L : ∀ (k2 : Int) (s2 : List impl_Replica), s2.length = s.length → s2.drop (i + 1).toNat = s.drop (i + 1).toNat → 0 ≤ k2 → k2 ≤ M - (j : Int) * 7340035 → Tot (laws_markReplicaS_2 k2 (i + 1) s2) (fun r => 0 ≤ r.1 ∧ r.1 ≤ M) := fun k2 s2 h1 h2 h3 h4 => markReplicaS_l M hM j k2 (i + 1) s2 (by omega) (by omega) (by omega) (by rw [h2]; exact fun x hx => hp x (drop_mem hi0 hx)) h3 (by omega)
    rw [laws_markReplicaS_2_eq]
    try simp only [cond_dec, if_pos hi0, if_pos hi, List.length_set, List.set_set, rd_set _ _ _ hni]
    exact laws_markReplicaS_5_h L (k) _ hi0 (by simp only [List.length_set] <;> exact hi) (by simp only [List.length_set] <;> exact hn) (by rw [drop_set _ _ _ hi0] <;> exact hd) hnn (by rw [rd_set _ _ _ hni]; exact hq.1.1) (by rw [rd_set _ _ _ hni]; exact hq.2.1) (by omega) (by first | omega | (rw [rd_set _ _ _ hni]; dsimp only; omega)) hB
theorem markReplicaS_t (s : List impl_Replica) (k : Int) (hs : SmL Sm_impl_Replica s) (h0 : 0 ≤ k) (h1 : k + 7340035 * s.length ≤ 4611686018427387904) : Tot (laws_markReplicaS s k) (fun r => 0 ≤ r.1 ∧ r.1 ≤ k + 7340035 * s.length) := by
  have := hs.1
  rw [laws_markReplicaS_eq]
  exact markReplicaS_l (k + 7340035 * s.length) (by omega) s.length k 0 s (by omega) (by omega) hs.1 hs.2 h0 (by omega)

theorem laws_markSessionS_9_h {Q : _ → Prop} {B : Int} {n : Nat} {d : List impl_Session} {i : Int} (L : ∀ (k : Int) (s : List impl_Session), s.length = n → s.drop (i + 1).toNat = d → 0 ≤ k → k ≤ B → Tot (laws_markSessionS_2 k (i + 1) s) Q)
    (k : Int) (s : List impl_Session) (hi0 : 0 ≤ i) (hi : i < s.length) (hn : s.length = n) (hd : s.drop (i + 1).toNat = d) (hnn : n ≤ 1048576)  (hk0 : 0 ≤ k) (hkB : k + (1) ≤ B) (hB : B ≤ 4611686018427387904) : Tot (laws_markSessionS_9 k i s) Q := by
  have hni : Int.toNat i < s.length := by omega
  rw [laws_markSessionS_9_eq]
  have ex11 : wrap64 (k + 1) = k + 1 := w64 (by omega) (by omega)
  try simp only [cond_dec, if_pos hi0, if_pos hi, List.length_set, List.set_set, rd_set _ _ _ hni, ex11]
  rw [w64 (n := i + 1) (by omega) (by omega)]
  exact L _ _ hn hd (by omega) (by omega)
theorem laws_markSessionS_7_h {Q : _ → Prop} {B : Int} {n : Nat} {d : List impl_Session} {i : Int} (L : ∀ (k : Int) (s : List impl_Session), s.length = n → s.drop (i + 1).toNat = d → 0 ≤ k → k ≤ B → Tot (laws_markSessionS_2 k (i + 1) s) Q)
    (k : Int) (s : List impl_Session) (hi0 : 0 ≤ i) (hi : i < s.length) (hn : s.length = n) (hd : s.drop (i + 1).toNat = d) (hnn : n ≤ 1048576)  (hk0 : 0 ≤ k) (hkB : k + (2) ≤ B) (hB : B ≤ 4611686018427387904) : Tot (laws_markSessionS_7 k i s) Q := by
  have hni : Int.toNat i < s.length := by omega
  rw [laws_markSessionS_7_eq]
  have ex11 : wrap64 (k + 1) = k + 1 := w64 (by omega) (by omega)
  try simp only [cond_dec, if_pos hi0, if_pos hi, List.length_set, List.set_set, rd_set _ _ _ hni, ex11]
  exact laws_markSessionS_9_h L (k + 1) _ hi0 (by simp only [List.length_set] <;> exact hi) (by simp only [List.length_set] <;> exact hn) (by rw [drop_set _ _ _ hi0] <;> exact hd) hnn  (by omega) (by first | omega | (rw [rd_set _ _ _ hni]; dsimp only; omega)) hB
theorem laws_markSessionS_5_h {Q : _ → Prop} {B : Int} {n : Nat} {d : List impl_Session} {i : Int} (L : ∀ (k : Int) (s : List impl_Session), s.length = n → s.drop (i + 1).toNat = d → 0 ≤ k → k ≤ B → Tot (laws_markSessionS_2 k (i + 1) s) Q)
    (k : Int) (s : List impl_Session) (hi0 : 0 ≤ i) (hi : i < s.length) (hn : s.length = n) (hd : s.drop (i + 1).toNat = d) (hnn : n ≤ 1048576)  (hk0 : 0 ≤ k) (hkB : k + (3) ≤ B) (hB : B ≤ 4611686018427387904) : Tot (laws_markSessionS_5 k i s) Q := by
  have hni : Int.toNat i < s.length := by omega
  rw [laws_markSessionS_5_eq]
  have ex11 : wrap64 (k + 1) = k + 1 := w64 (by omega) (by omega)
  try simp only [cond_dec, if_pos hi0, if_pos hi, List.length_set, List.set_set, rd_set _ _ _ hni, ex11]
  exact laws_markSessionS_7_h L (k + 1) _ hi0 (by simp only [List.length_set] <;> exact hi) (by simp only [List.length_set] <;> exact hn) (by rw [drop_set _ _ _ hi0] <;> exact hd) hnn  (by omega) (by first | omega | (rw [rd_set _ _ _ hni]; dsimp only; omega)) hB
theorem markSessionS_l (M : Int) (hM : M ≤ 4611686018427387904) : ∀ (j : Nat) (k i : Int) (s : List impl_Session), i + j = s.length → 0 ≤ i → s.length ≤ 1048576 → (∀ x ∈ s.drop i.toNat, (fun _ => True) x) → 0 ≤ k → k + j * 3 ≤ M → Tot (laws_markSessionS_2 k i s) (fun r => 0 ≤ r.1 ∧ r.1 ≤ M)
  | 0, k, i, s, hj, hi0, hnn, hp, hk0, hkM => by
    rw [laws_markSessionS_2_eq, cond_dec, if_neg (by omega)]
    exact Tot.val ⟨hk0, by show k ≤ M; omega⟩
  | j + 1, k, i, s, hj, hi0, hnn, hp, hk0, hkM => by
    have hi : i < s.length := by omega
    have hni : Int.toNat i < s.length := by omega
    have hn : s.length = s.length := rfl
    have hd : s.drop (i + 1).toNat = s.drop (i + 1).toNat := rfl
    have hB : M - (j : Int) * 3 ≤ 4611686018427387904 := by omega
    have hkB : k + 3 ≤ M - (j : Int) * 3 := by omega
    have L : ∀ (k2 : Int) (s2 : List impl_Session), s2.length = s.length → s2.drop (i + 1).toNat = s.drop (i + 1).toNat → 0 ≤ k2 → k2 ≤ M - (j : Int) * 3 → Tot (laws_markSessionS_2 k2 (i + 1) s2) (fun r => 0 ≤ r.1 ∧ r.1 ≤ M) := fun k2 s2 h1 h2 h3 h4 => markSessionS_l M hM j k2 (i + 1) s2 (by omega) (by omega) (by omega) (by rw [h2]; exact fun x hx => hp x (drop_mem hi0 hx)) h3 (by omega)
    rw [laws_markSessionS_2_eq]
    try simp only [cond_dec, if_pos hi0, if_pos hi, List.length_set, List.set_set, rd_set _ _ _ hni]
    exact laws_markSessionS_5_h L (k) _ hi0 (by simp only [List.length_set] <;> exact hi) (by simp only [List.length_set] <;> exact hn) (by rw [drop_set _ _ _ hi0] <;> exact hd) hnn  (by omega) (by first | omega | (rw [rd_set _ _ _ hni]; dsimp only; omega)) hB
theorem markSessionS_t (s : List impl_Session) (k : Int) (hs : SmL (fun _ => True) s) (h0 : 0 ≤ k) (h1 : k + 3 * s.length ≤ 4611686018427387904) : Tot (laws_markSessionS s k) (fun r => 0 ≤ r.1 ∧ r.1 ≤ k + 3 * s.length) := by
  have := hs.1
  rw [laws_markSessionS_eq]
  exact markSessionS_l (k + 3 * s.length) (by omega) s.length k 0 s (by omega) (by omega) hs.1 hs.2 h0 (by omega)

theorem laws_markPairS_7_h {Q : _ → Prop} {B : Int} {n : Nat} {d : List impl_Pair} {i : Int} (L : ∀ (k : Int) (s : List impl_Pair), s.length = n → s.drop (i + 1).toNat = d → 0 ≤ k → k ≤ B → Tot (laws_markPairS_2 k (i + 1) s) Q)
    (k : Int) (s : List impl_Pair) (hi0 : 0 ≤ i) (hi : i < s.length) (hn : s.length = n) (hd : s.drop (i + 1).toNat = d) (hnn : n ≤ 1048576)  (hk0 : 0 ≤ k) (hkB : k + (1) ≤ B) (hB : B ≤ 4611686018427387904) : Tot (laws_markPairS_7 k i s) Q := by
  have hni : Int.toNat i < s.length := by omega
  rw [laws_markPairS_7_eq]
  have ex11 : wrap64 (k + 1) = k + 1 := w64 (by omega) (by omega)
  try simp only [cond_dec, if_pos hi0, if_pos hi, List.length_set, List.set_set, rd_set _ _ _ hni, ex11]
  rw [w64 (n := i + 1) (by omega) (by omega)]
  exact L _ _ hn hd (by omega) (by omega)
theorem markPairS_l (M : Int) (hM : M ≤ 4611686018427387904) : ∀ (j : Nat) (k i : Int) (s : List impl_Pair), i + j = s.length → 0 ≤ i → s.length ≤ 1048576 → (∀ x ∈ s.drop i.toNat, (fun _ => True) x) → 0 ≤ k → k + j * 2 ≤ M → Tot (laws_markPairS_2 k i s) (fun r => 0 ≤ r.1 ∧ r.1 ≤ M)
  | 0, k, i, s, hj, hi0, hnn, hp, hk0, hkM => by
    rw [laws_markPairS_2_eq, cond_dec, if_neg (by omega)]
    exact Tot.val ⟨hk0, by show k ≤ M; omega⟩
  | j + 1, k, i, s, hj, hi0, hnn, hp, hk0, hkM => by
    have hi : i < s.length := by omega
    have hni : Int.toNat i < s.length := by omega
    have hn : s.length = s.length := rfl
    have hd : s.drop (i + 1).toNat = s.drop (i + 1).toNat := rfl
    have hB : M - (j : Int) * 2 ≤ 4611686018427387904 := by omega
    have hkB : k + 2 ≤ M - (j : Int) * 2 := by omega
    have L : ∀ (k2 : Int) (s2 : List impl_Pair), s2.length = s.length → s2.drop (i + 1).toNat = s.drop (i + 1).toNat → 0 ≤ k2 → k2 ≤ M - (j : Int) * 2 → Tot (laws_markPairS_2 k2 (i + 1) s2) (fun r => 0 ≤ r.1 ∧ r.1 ≤ M) := fun k2 s2 h1 h2 h3 h4 => markPairS_l M hM j k2 (i + 1) s2 (by omega) (by omega) (by omega) (by rw [h2]; exact fun x hx => hp x (drop_mem hi0 hx)) h3 (by omega)
    rw [laws_markPairS_2_eq]
    have ex11 : wrap64 (k + 1) = k + 1 := w64 (by omega) (by omega)
    try simp only [cond_dec, if_pos hi0, if_pos hi, List.length_set, List.set_set, rd_set _ _ _ hni, ex11]
    rw [mt_eq (k) (by omega) (by omega), Option.bind_some]
    try simp only [cond_dec, if_pos hi0, if_pos hi, List.length_set, List.set_set, rd_set _ _ _ hni]
    exact laws_markPairS_7_h L (k + 1) _ hi0 (by simp only [List.length_set] <;> exact hi) (by simp only [List.length_set] <;> exact hn) (by rw [drop_set _ _ _ hi0] <;> exact hd) hnn  (by omega) (by first | omega | (rw [rd_set _ _ _ hni]; dsimp only; omega)) hB
theorem markPairS_t (s : List impl_Pair) (k : Int) (hs : SmL (fun _ => True) s) (h0 : 0 ≤ k) (h1 : k + 2 * s.length ≤ 4611686018427387904) : Tot (laws_markPairS s k) (fun r => 0 ≤ r.1 ∧ r.1 ≤ k + 2 * s.length) := by
  have := hs.1
  rw [laws_markPairS_eq]
  exact markPairS_l (k + 2 * s.length) (by omega) s.length k 0 s (by omega) (by omega) hs.1 hs.2 h0 (by omega)

theorem laws_markShardS_3_h {Q : _ → Prop} {B : Int} {n : Nat} {d : List impl_Shard} {i : Int} (L : ∀ (k : Int) (s : List impl_Shard), s.length = n → s.drop (i + 1).toNat = d → 0 ≤ k → k ≤ B → Tot (laws_markShardS_2 k (i + 1) s) Q)
    (k : Int) (s : List impl_Shard) (hi0 : 0 ≤ i) (hi : i < s.length) (hn : s.length = n) (hd : s.drop (i + 1).toNat = d) (hnn : n ≤ 1048576)  (hk0 : 0 ≤ k) (hkB : k + (0) ≤ B) (hB : B ≤ 4611686018427387904) : Tot (laws_markShardS_3 k i s) Q := by
  have hni : Int.toNat i < s.length := by omega
  rw [laws_markShardS_3_eq]
  try simp only [cond_dec, if_pos hi0, if_pos hi, List.length_set, List.set_set, rd_set _ _ _ hni]
  rw [w64 (n := i + 1) (by omega) (by omega)]
  exact L _ _ hn hd (by omega) (by omega)
theorem laws_markShardS_24_h {Q : _ → Prop} {B : Int} {n : Nat} {d : List impl_Shard} {i : Int} (L : ∀ (k : Int) (s : List impl_Shard), s.length = n → s.drop (i + 1).toNat = d → 0 ≤ k → k ≤ B → Tot (laws_markShardS_2 k (i + 1) s) Q)
    (k : Int) (s : List impl_Shard) (hi0 : 0 ≤ i) (hi : i < s.length) (hn : s.length = n) (hd : s.drop (i + 1).toNat = d) (hnn : n ≤ 1048576) (pGroupAnswers : SmL (fun _ => True) (rdAt s (Int.toNat i) z_impl_Shard).Group.Answers) (hk0 : 0 ≤ k) (hkB : k + (7340032) ≤ B) (hB : B ≤ 4611686018427387904) : Tot (laws_markShardS_24 k i s) Q := by
  have hni : Int.toNat i < s.length := by omega
  rw [laws_markShardS_24_eq]
  try simp only [cond_dec, if_pos hi0, if_pos hi, List.length_set, List.set_set, rd_set _ _ _ hni]
  have lr1 := pGroupAnswers.1
  refine (markAnswerS_t _ (k) pGroupAnswers (by omega) (by omega)).bind fun r1 hr1 => ?_
  obtain ⟨hr1a, hr1b⟩ := hr1
  try simp only [cond_dec, if_pos hi0, if_pos hi, List.length_set, List.set_set, rd_set _ _ _ hni]
  exact laws_markShardS_3_h L (r1.1) _ hi0 (by simp only [List.length_set] <;> exact hi) (by simp only [List.length_set] <;> exact hn) (by rw [drop_set _ _ _ hi0] <;> exact hd) hnn  (by omega) (by first | omega | (rw [rd_set _ _ _ hni]; dsimp only; omega)) hB
theorem laws_markShardS_23_h {Q : _ → Prop} {B : Int} {n : Nat} {d : List impl_Shard} {i : Int} (L : ∀ (k : Int) (s : List impl_Shard), s.length = n → s.drop (i + 1).toNat = d → 0 ≤ k → k ≤ B → Tot (laws_markShardS_2 k (i + 1) s) Q)
    (k : Int) (s : List impl_Shard) (hi0 : 0 ≤ i) (hi : i < s.length) (hn : s.length = n) (hd : s.drop (i + 1).toNat = d) (hnn : n ≤ 1048576) (pGroupBag : SmL Sm_impl_Message (rdAt s (Int.toNat i) z_impl_Shard).Group.Bag) (pGroupAnswers : SmL (fun _ => True) (rdAt s (Int.toNat i) z_impl_Shard).Group.Answers) (hk0 : 0 ≤ k) (hkB : k + (7340032 + 7340037 * ((rdAt s (Int.toNat i) z_impl_Shard).Group.Bag.length : Int)) ≤ B) (hB : B ≤ 4611686018427387904) : Tot (laws_markShardS_23 k i s) Q := by
  have hni : Int.toNat i < s.length := by omega
  rw [laws_markShardS_23_eq]
  try simp only [cond_dec, if_pos hi0, if_pos hi, List.length_set, List.set_set, rd_set _ _ _ hni]
  have lr1 := pGroupBag.1
  refine (markMessageS_t _ (k) pGroupBag (by omega) (by omega)).bind fun r1 hr1 => ?_
  obtain ⟨hr1a, hr1b⟩ := hr1
  try simp only [cond_dec, if_pos hi0, if_pos hi, List.length_set, List.set_set, rd_set _ _ _ hni]
  exact laws_markShardS_24_h L (r1.1) _ hi0 (by simp only [List.length_set] <;> exact hi) (by simp only [List.length_set] <;> exact hn) (by rw [drop_set _ _ _ hi0] <;> exact hd) hnn (by rw [rd_set _ _ _ hni]; exact pGroupAnswers) (by omega) (by first | omega | (rw [rd_set _ _ _ hni]; dsimp only; omega)) hB
theorem laws_markShardS_22_h {Q : _ → Prop} {B : Int} {n : Nat} {d : List impl_Shard} {i : Int} (L : ∀ (k : Int) (s : List impl_Shard), s.length = n → s.drop (i + 1).toNat = d → 0 ≤ k → k ≤ B → Tot (laws_markShardS_2 k (i + 1) s) Q)
    (k : Int) (s : List impl_Shard) (hi0 : 0 ≤ i) (hi : i < s.length) (hn : s.length = n) (hd : s.drop (i + 1).toNat = d) (hnn : n ≤ 1048576) (pGroupUp : SmL (fun _ => True) (rdAt s (Int.toNat i) z_impl_Shard).Group.Up) (pGroupBag : SmL Sm_impl_Message (rdAt s (Int.toNat i) z_impl_Shard).Group.Bag) (pGroupAnswers : SmL (fun _ => True) (rdAt s (Int.toNat i) z_impl_Shard).Group.Answers) (hk0 : 0 ≤ k) (hkB : k + (8388608 + 7340037 * ((rdAt s (Int.toNat i) z_impl_Shard).Group.Bag.length : Int)) ≤ B) (hB : B ≤ 4611686018427387904) : Tot (laws_markShardS_22 k i s) Q := by
  have hni : Int.toNat i < s.length := by omega
  rw [laws_markShardS_22_eq]
  try simp only [cond_dec, if_pos hi0, if_pos hi, List.length_set, List.set_set, rd_set _ _ _ hni]
  have lr1 := pGroupUp.1
  refine (markBoolS_t _ (k) pGroupUp (by omega) (by omega)).bind fun r1 hr1 => ?_
  obtain ⟨hr1a, hr1b⟩ := hr1
  try simp only [cond_dec, if_pos hi0, if_pos hi, List.length_set, List.set_set, rd_set _ _ _ hni]
  exact laws_markShardS_23_h L (r1.1) _ hi0 (by simp only [List.length_set] <;> exact hi) (by simp only [List.length_set] <;> exact hn) (by rw [drop_set _ _ _ hi0] <;> exact hd) hnn (by rw [rd_set _ _ _ hni]; exact pGroupBag) (by rw [rd_set _ _ _ hni]; exact pGroupAnswers) (by omega) (by first | omega | (rw [rd_set _ _ _ hni]; dsimp only; omega)) hB
theorem laws_markShardS_20_h {Q : _ → Prop} {B : Int} {n : Nat} {d : List impl_Shard} {i : Int} (L : ∀ (k : Int) (s : List impl_Shard), s.length = n → s.drop (i + 1).toNat = d → 0 ≤ k → k ≤ B → Tot (laws_markShardS_2 k (i + 1) s) Q)
    (k : Int) (s : List impl_Shard) (hi0 : 0 ≤ i) (hi : i < s.length) (hn : s.length = n) (hd : s.drop (i + 1).toNat = d) (hnn : n ≤ 1048576) (pGroupNodes : SmL Sm_impl_Replica (rdAt s (Int.toNat i) z_impl_Shard).Group.Nodes) (pGroupUp : SmL (fun _ => True) (rdAt s (Int.toNat i) z_impl_Shard).Group.Up) (pGroupBag : SmL Sm_impl_Message (rdAt s (Int.toNat i) z_impl_Shard).Group.Bag) (pGroupAnswers : SmL (fun _ => True) (rdAt s (Int.toNat i) z_impl_Shard).Group.Answers) (hk0 : 0 ≤ k) (hkB : k + (8388609 + 7340035 * ((rdAt s (Int.toNat i) z_impl_Shard).Group.Nodes.length : Int) + 7340037 * ((rdAt s (Int.toNat i) z_impl_Shard).Group.Bag.length : Int)) ≤ B) (hB : B ≤ 4611686018427387904) : Tot (laws_markShardS_20 k i s) Q := by
  have hni : Int.toNat i < s.length := by omega
  rw [laws_markShardS_20_eq]
  have ex11 : wrap64 (k + 1) = k + 1 := w64 (by omega) (by omega)
  try simp only [cond_dec, if_pos hi0, if_pos hi, List.length_set, List.set_set, rd_set _ _ _ hni, ex11]
  have lr1 := pGroupNodes.1
  refine (markReplicaS_t _ (k + 1) pGroupNodes (by omega) (by omega)).bind fun r1 hr1 => ?_
  obtain ⟨hr1a, hr1b⟩ := hr1
  try simp only [cond_dec, if_pos hi0, if_pos hi, List.length_set, List.set_set, rd_set _ _ _ hni, ex11]
  exact laws_markShardS_22_h L (r1.1) _ hi0 (by simp only [List.length_set] <;> exact hi) (by simp only [List.length_set] <;> exact hn) (by rw [drop_set _ _ _ hi0] <;> exact hd) hnn (by rw [rd_set _ _ _ hni]; exact pGroupUp) (by rw [rd_set _ _ _ hni]; exact pGroupBag) (by rw [rd_set _ _ _ hni]; exact pGroupAnswers) (by omega) (by first | omega | (rw [rd_set _ _ _ hni]; dsimp only; omega)) hB
theorem laws_markShardS_19_h {Q : _ → Prop} {B : Int} {n : Nat} {d : List impl_Shard} {i : Int} (L : ∀ (k : Int) (s : List impl_Shard), s.length = n → s.drop (i + 1).toNat = d → 0 ≤ k → k ≤ B → Tot (laws_markShardS_2 k (i + 1) s) Q)
    (k : Int) (s : List impl_Shard) (hi0 : 0 ≤ i) (hi : i < s.length) (hn : s.length = n) (hd : s.drop (i + 1).toNat = d) (hnn : n ≤ 1048576) (pGroupNodes : SmL Sm_impl_Replica (rdAt s (Int.toNat i) z_impl_Shard).Group.Nodes) (pGroupUp : SmL (fun _ => True) (rdAt s (Int.toNat i) z_impl_Shard).Group.Up) (pGroupBag : SmL Sm_impl_Message (rdAt s (Int.toNat i) z_impl_Shard).Group.Bag) (pGroupAnswers : SmL (fun _ => True) (rdAt s (Int.toNat i) z_impl_Shard).Group.Answers) (hk0 : 0 ≤ k) (hkB : k + (8388609 + 7340035 * ((rdAt s (Int.toNat i) z_impl_Shard).Group.Nodes.length : Int) + 7340037 * ((rdAt s (Int.toNat i) z_impl_Shard).Group.Bag.length : Int)) ≤ B) (hB : B ≤ 4611686018427387904) : Tot (laws_markShardS_19 k i s) Q := by
  have hni : Int.toNat i < s.length := by omega
  rw [laws_markShardS_19_eq]
  try simp only [cond_dec, if_pos hi0, if_pos hi, List.length_set, List.set_set, rd_set _ _ _ hni]
  exact laws_markShardS_20_h L (k) _ hi0 (by simp only [List.length_set] <;> exact hi) (by simp only [List.length_set] <;> exact hn) (by rw [drop_set _ _ _ hi0] <;> exact hd) hnn (by rw [rd_set _ _ _ hni]; exact pGroupNodes) (by rw [rd_set _ _ _ hni]; exact pGroupUp) (by rw [rd_set _ _ _ hni]; exact pGroupBag) (by rw [rd_set _ _ _ hni]; exact pGroupAnswers) (by omega) (by first | omega | (rw [rd_set _ _ _ hni]; dsimp only; omega)) hB
theorem laws_markShardS_17_h {Q : _ → Prop} {B : Int} {n : Nat} {d : List impl_Shard} {i : Int} (L : ∀ (k : Int) (s : List impl_Shard), s.length = n → s.drop (i + 1).toNat = d → 0 ≤ k → k ≤ B → Tot (laws_markShardS_2 k (i + 1) s) Q)
    (k : Int) (s : List impl_Shard) (hi0 : 0 ≤ i) (hi : i < s.length) (hn : s.length = n) (hd : s.drop (i + 1).toNat = d) (hnn : n ≤ 1048576) (pGroupConfMembers : SmL (fun _ => True) (rdAt s (Int.toNat i) z_impl_Shard).Group.Conf.Members) (pGroupNodes : SmL Sm_impl_Replica (rdAt s (Int.toNat i) z_impl_Shard).Group.Nodes) (pGroupUp : SmL (fun _ => True) (rdAt s (Int.toNat i) z_impl_Shard).Group.Up) (pGroupBag : SmL Sm_impl_Message (rdAt s (Int.toNat i) z_impl_Shard).Group.Bag) (pGroupAnswers : SmL (fun _ => True) (rdAt s (Int.toNat i) z_impl_Shard).Group.Answers) (hk0 : 0 ≤ k) (hkB : k + (9437186 + 7340035 * ((rdAt s (Int.toNat i) z_impl_Shard).Group.Nodes.length : Int) + 7340037 * ((rdAt s (Int.toNat i) z_impl_Shard).Group.Bag.length : Int)) ≤ B) (hB : B ≤ 4611686018427387904) : Tot (laws_markShardS_17 k i s) Q := by
  have hni : Int.toNat i < s.length := by omega
  rw [laws_markShardS_17_eq]
  have ex11 : wrap64 (k + 1) = k + 1 := w64 (by omega) (by omega)
  try simp only [cond_dec, if_pos hi0, if_pos hi, List.length_set, List.set_set, rd_set _ _ _ hni, ex11]
  have lr1 := pGroupConfMembers.1
  refine (markIntS_t _ (k + 1) pGroupConfMembers (by omega) (by omega)).bind fun r1 hr1 => ?_
  obtain ⟨hr1a, hr1b⟩ := hr1
  try simp only [cond_dec, if_pos hi0, if_pos hi, List.length_set, List.set_set, rd_set _ _ _ hni, ex11]
  exact laws_markShardS_19_h L (r1.1) _ hi0 (by simp only [List.length_set] <;> exact hi) (by simp only [List.length_set] <;> exact hn) (by rw [drop_set _ _ _ hi0] <;> exact hd) hnn (by rw [rd_set _ _ _ hni]; exact pGroupNodes) (by rw [rd_set _ _ _ hni]; exact pGroupUp) (by rw [rd_set _ _ _ hni]; exact pGroupBag) (by rw [rd_set _ _ _ hni]; exact pGroupAnswers) (by omega) (by first | omega | (rw [rd_set _ _ _ hni]; dsimp only; omega)) hB
theorem laws_markShardS_15_h {Q : _ → Prop} {B : Int} {n : Nat} {d : List impl_Shard} {i : Int} (L : ∀ (k : Int) (s : List impl_Shard), s.length = n → s.drop (i + 1).toNat = d → 0 ≤ k → k ≤ B → Tot (laws_markShardS_2 k (i + 1) s) Q)
    (k : Int) (s : List impl_Shard) (hi0 : 0 ≤ i) (hi : i < s.length) (hn : s.length = n) (hd : s.drop (i + 1).toNat = d) (hnn : n ≤ 1048576) (pGroupConfMembers : SmL (fun _ => True) (rdAt s (Int.toNat i) z_impl_Shard).Group.Conf.Members) (pGroupNodes : SmL Sm_impl_Replica (rdAt s (Int.toNat i) z_impl_Shard).Group.Nodes) (pGroupUp : SmL (fun _ => True) (rdAt s (Int.toNat i) z_impl_Shard).Group.Up) (pGroupBag : SmL Sm_impl_Message (rdAt s (Int.toNat i) z_impl_Shard).Group.Bag) (pGroupAnswers : SmL (fun _ => True) (rdAt s (Int.toNat i) z_impl_Shard).Group.Answers) (hk0 : 0 ≤ k) (hkB : k + (9437187 + 7340035 * ((rdAt s (Int.toNat i) z_impl_Shard).Group.Nodes.length : Int) + 7340037 * ((rdAt s (Int.toNat i) z_impl_Shard).Group.Bag.length : Int)) ≤ B) (hB : B ≤ 4611686018427387904) : Tot (laws_markShardS_15 k i s) Q := by
  have hni : Int.toNat i < s.length := by omega
  rw [laws_markShardS_15_eq]
  have ex11 : wrap64 (k + 1) = k + 1 := w64 (by omega) (by omega)
  try simp only [cond_dec, if_pos hi0, if_pos hi, List.length_set, List.set_set, rd_set _ _ _ hni, ex11]
  exact laws_markShardS_17_h L (k + 1) _ hi0 (by simp only [List.length_set] <;> exact hi) (by simp only [List.length_set] <;> exact hn) (by rw [drop_set _ _ _ hi0] <;> exact hd) hnn (by rw [rd_set _ _ _ hni]; exact pGroupConfMembers) (by rw [rd_set _ _ _ hni]; exact pGroupNodes) (by rw [rd_set _ _ _ hni]; exact pGroupUp) (by rw [rd_set _ _ _ hni]; exact pGroupBag) (by rw [rd_set _ _ _ hni]; exact pGroupAnswers) (by omega) (by first | omega | (rw [rd_set _ _ _ hni]; dsimp only; omega)) hB
theorem laws_markShardS_13_h {Q : _ → Prop} {B : Int} {n : Nat} {d : List impl_Shard} {i : Int} (L : ∀ (k : Int) (s : List impl_Shard), s.length = n → s.drop (i + 1).toNat = d → 0 ≤ k → k ≤ B → Tot (laws_markShardS_2 k (i + 1) s) Q)
    (k : Int) (s : List impl_Shard) (hi0 : 0 ≤ i) (hi : i < s.length) (hn : s.length = n) (hd : s.drop (i + 1).toNat = d) (hnn : n ≤ 1048576) (pGroupConfMembers : SmL (fun _ => True) (rdAt s (Int.toNat i) z_impl_Shard).Group.Conf.Members) (pGroupNodes : SmL Sm_impl_Replica (rdAt s (Int.toNat i) z_impl_Shard).Group.Nodes) (pGroupUp : SmL (fun _ => True) (rdAt s (Int.toNat i) z_impl_Shard).Group.Up) (pGroupBag : SmL Sm_impl_Message (rdAt s (Int.toNat i) z_impl_Shard).Group.Bag) (pGroupAnswers : SmL (fun _ => True) (rdAt s (Int.toNat i) z_impl_Shard).Group.Answers) (hk0 : 0 ≤ k) (hkB : k + (9437188 + 7340035 * ((rdAt s (Int.toNat i) z_impl_Shard).Group.Nodes.length : Int) + 7340037 * ((rdAt s (Int.toNat i) z_impl_Shard).Group.Bag.length : Int)) ≤ B) (hB : B ≤ 4611686018427387904) : Tot (laws_markShardS_13 k i s) Q := by
  have hni : Int.toNat i < s.length := by omega
  rw [laws_markShardS_13_eq]
  have ex11 : wrap64 (k + 1) = k + 1 := w64 (by omega) (by omega)
  try simp only [cond_dec, if_pos hi0, if_pos hi, List.length_set, List.set_set, rd_set _ _ _ hni, ex11]
  rw [mt_eq (k + 1) (by omega) (by omega), Option.bind_some]
  try simp only [cond_dec, if_pos hi0, if_pos hi, List.length_set, List.set_set, rd_set _ _ _ hni]
  exact laws_markShardS_15_h L (k + 1) _ hi0 (by simp only [List.length_set] <;> exact hi) (by simp only [List.length_set] <;> exact hn) (by rw [drop_set _ _ _ hi0] <;> exact hd) hnn (by rw [rd_set _ _ _ hni]; exact pGroupConfMembers) (by rw [rd_set _ _ _ hni]; exact pGroupNodes) (by rw [rd_set _ _ _ hni]; exact pGroupUp) (by rw [rd_set _ _ _ hni]; exact pGroupBag) (by rw [rd_set _ _ _ hni]; exact pGroupAnswers) (by omega) (by first | omega | (rw [rd_set _ _ _ hni]; dsimp only; omega)) hB
theorem laws_markShardS_12_h {Q : _ → Prop} {B : Int} {n : Nat} {d : List impl_Shard} {i : Int} (L : ∀ (k : Int) (s : List impl_Shard), s.length = n → s.drop (i + 1).toNat = d → 0 ≤ k → k ≤ B → Tot (laws_markShardS_2 k (i + 1) s) Q)
    (k : Int) (s : List impl_Shard) (hi0 : 0 ≤ i) (hi : i < s.length) (hn : s.length = n) (hd : s.drop (i + 1).toNat = d) (hnn : n ≤ 1048576) (pGroupConfMembers : SmL (fun _ => True) (rdAt s (Int.toNat i) z_impl_Shard).Group.Conf.Members) (pGroupNodes : SmL Sm_impl_Replica (rdAt s (Int.toNat i) z_impl_Shard).Group.Nodes) (pGroupUp : SmL (fun _ => True) (rdAt s (Int.toNat i) z_impl_Shard).Group.Up) (pGroupBag : SmL Sm_impl_Message (rdAt s (Int.toNat i) z_impl_Shard).Group.Bag) (pGroupAnswers : SmL (fun _ => True) (rdAt s (Int.toNat i) z_impl_Shard).Group.Answers) (hk0 : 0 ≤ k) (hkB : k + (9437188 + 7340035 * ((rdAt s (Int.toNat i) z_impl_Shard).Group.Nodes.length : Int) + 7340037 * ((rdAt s (Int.toNat i) z_impl_Shard).Group.Bag.length : Int)) ≤ B) (hB : B ≤ 4611686018427387904) : Tot (laws_markShardS_12 k i s) Q := by
  have hni : Int.toNat i < s.length := by omega
  rw [laws_markShardS_12_eq]
  try simp only [cond_dec, if_pos hi0, if_pos hi, List.length_set, List.set_set, rd_set _ _ _ hni]
  exact laws_markShardS_13_h L (k) _ hi0 (by simp only [List.length_set] <;> exact hi) (by simp only [List.length_set] <;> exact hn) (by rw [drop_set _ _ _ hi0] <;> exact hd) hnn (by rw [rd_set _ _ _ hni]; exact pGroupConfMembers) (by rw [rd_set _ _ _ hni]; exact pGroupNodes) (by rw [rd_set _ _ _ hni]; exact pGroupUp) (by rw [rd_set _ _ _ hni]; exact pGroupBag) (by rw [rd_set _ _ _ hni]; exact pGroupAnswers) (by omega) (by first | omega | (rw [rd_set _ _ _ hni]; dsimp only; omega)) hB
theorem laws_markShardS_11_h {Q : _ → Prop} {B : Int} {n : Nat} {d : List impl_Shard} {i : Int} (L : ∀ (k : Int) (s : List impl_Shard), s.length = n → s.drop (i + 1).toNat = d → 0 ≤ k → k ≤ B → Tot (laws_markShardS_2 k (i + 1) s) Q)
    (k : Int) (s : List impl_Shard) (hi0 : 0 ≤ i) (hi : i < s.length) (hn : s.length = n) (hd : s.drop (i + 1).toNat = d) (hnn : n ≤ 1048576) (pGroupBaseKnown : SmL (fun _ => True) (rdAt s (Int.toNat i) z_impl_Shard).Group.Base.Known) (pGroupConfMembers : SmL (fun _ => True) (rdAt s (Int.toNat i) z_impl_Shard).Group.Conf.Members) (pGroupNodes : SmL Sm_impl_Replica (rdAt s (Int.toNat i) z_impl_Shard).Group.Nodes) (pGroupUp : SmL (fun _ => True) (rdAt s (Int.toNat i) z_impl_Shard).Group.Up) (pGroupBag : SmL Sm_impl_Message (rdAt s (Int.toNat i) z_impl_Shard).Group.Bag) (pGroupAnswers : SmL (fun _ => True) (rdAt s (Int.toNat i) z_impl_Shard).Group.Answers) (hk0 : 0 ≤ k) (hkB : k + (12582916 + 7340035 * ((rdAt s (Int.toNat i) z_impl_Shard).Group.Nodes.length : Int) + 7340037 * ((rdAt s (Int.toNat i) z_impl_Shard).Group.Bag.length : Int)) ≤ B) (hB : B ≤ 4611686018427387904) : Tot (laws_markShardS_11 k i s) Q := by
  have hni : Int.toNat i < s.length := by omega
  rw [laws_markShardS_11_eq]
  try simp only [cond_dec, if_pos hi0, if_pos hi, List.length_set, List.set_set, rd_set _ _ _ hni]
  have lr1 := pGroupBaseKnown.1
  refine (markSessionS_t _ (k) pGroupBaseKnown (by omega) (by omega)).bind fun r1 hr1 => ?_
  obtain ⟨hr1a, hr1b⟩ := hr1
  try simp only [cond_dec, if_pos hi0, if_pos hi, List.length_set, List.set_set, rd_set _ _ _ hni]
  exact laws_markShardS_12_h L (r1.1) _ hi0 (by simp only [List.length_set] <;> exact hi) (by simp only [List.length_set] <;> exact hn) (by rw [drop_set _ _ _ hi0] <;> exact hd) hnn (by rw [rd_set _ _ _ hni]; exact pGroupConfMembers) (by rw [rd_set _ _ _ hni]; exact pGroupNodes) (by rw [rd_set _ _ _ hni]; exact pGroupUp) (by rw [rd_set _ _ _ hni]; exact pGroupBag) (by rw [rd_set _ _ _ hni]; exact pGroupAnswers) (by omega) (by first | omega | (rw [rd_set _ _ _ hni]; dsimp only; omega)) hB
theorem laws_markShardS_9_h {Q : _ → Prop} {B : Int} {n : Nat} {d : List impl_Shard} {i : Int} (L : ∀ (k : Int) (s : List impl_Shard), s.length = n → s.drop (i + 1).toNat = d → 0 ≤ k → k ≤ B → Tot (laws_markShardS_2 k (i + 1) s) Q)
    (k : Int) (s : List impl_Shard) (hi0 : 0 ≤ i) (hi : i < s.length) (hn : s.length = n) (hd : s.drop (i + 1).toNat = d) (hnn : n ≤ 1048576) (pGroupBasePairs : SmL (fun _ => True) (rdAt s (Int.toNat i) z_impl_Shard).Group.Base.Pairs) (pGroupBaseKnown : SmL (fun _ => True) (rdAt s (Int.toNat i) z_impl_Shard).Group.Base.Known) (pGroupConfMembers : SmL (fun _ => True) (rdAt s (Int.toNat i) z_impl_Shard).Group.Conf.Members) (pGroupNodes : SmL Sm_impl_Replica (rdAt s (Int.toNat i) z_impl_Shard).Group.Nodes) (pGroupUp : SmL (fun _ => True) (rdAt s (Int.toNat i) z_impl_Shard).Group.Up) (pGroupBag : SmL Sm_impl_Message (rdAt s (Int.toNat i) z_impl_Shard).Group.Bag) (pGroupAnswers : SmL (fun _ => True) (rdAt s (Int.toNat i) z_impl_Shard).Group.Answers) (hk0 : 0 ≤ k) (hkB : k + (14680069 + 7340035 * ((rdAt s (Int.toNat i) z_impl_Shard).Group.Nodes.length : Int) + 7340037 * ((rdAt s (Int.toNat i) z_impl_Shard).Group.Bag.length : Int)) ≤ B) (hB : B ≤ 4611686018427387904) : Tot (laws_markShardS_9 k i s) Q := by
  have hni : Int.toNat i < s.length := by omega
  rw [laws_markShardS_9_eq]
  have ex11 : wrap64 (k + 1) = k + 1 := w64 (by omega) (by omega)
  try simp only [cond_dec, if_pos hi0, if_pos hi, List.length_set, List.set_set, rd_set _ _ _ hni, ex11]
  have lr1 := pGroupBasePairs.1
  refine (markPairS_t _ (k + 1) pGroupBasePairs (by omega) (by omega)).bind fun r1 hr1 => ?_
  obtain ⟨hr1a, hr1b⟩ := hr1
  try simp only [cond_dec, if_pos hi0, if_pos hi, List.length_set, List.set_set, rd_set _ _ _ hni, ex11]
  exact laws_markShardS_11_h L (r1.1) _ hi0 (by simp only [List.length_set] <;> exact hi) (by simp only [List.length_set] <;> exact hn) (by rw [drop_set _ _ _ hi0] <;> exact hd) hnn (by rw [rd_set _ _ _ hni]; exact pGroupBaseKnown) (by rw [rd_set _ _ _ hni]; exact pGroupConfMembers) (by rw [rd_set _ _ _ hni]; exact pGroupNodes) (by rw [rd_set _ _ _ hni]; exact pGroupUp) (by rw [rd_set _ _ _ hni]; exact pGroupBag) (by rw [rd_set _ _ _ hni]; exact pGroupAnswers) (by omega) (by first | omega | (rw [rd_set _ _ _ hni]; dsimp only; omega)) hB
theorem laws_markShardS_7_h {Q : _ → Prop} {B : Int} {n : Nat} {d : List impl_Shard} {i : Int} (L : ∀ (k : Int) (s : List impl_Shard), s.length = n → s.drop (i + 1).toNat = d → 0 ≤ k → k ≤ B → Tot (laws_markShardS_2 k (i + 1) s) Q)
    (k : Int) (s : List impl_Shard) (hi0 : 0 ≤ i) (hi : i < s.length) (hn : s.length = n) (hd : s.drop (i + 1).toNat = d) (hnn : n ≤ 1048576) (pGroupBasePairs : SmL (fun _ => True) (rdAt s (Int.toNat i) z_impl_Shard).Group.Base.Pairs) (pGroupBaseKnown : SmL (fun _ => True) (rdAt s (Int.toNat i) z_impl_Shard).Group.Base.Known) (pGroupConfMembers : SmL (fun _ => True) (rdAt s (Int.toNat i) z_impl_Shard).Group.Conf.Members) (pGroupNodes : SmL Sm_impl_Replica (rdAt s (Int.toNat i) z_impl_Shard).Group.Nodes) (pGroupUp : SmL (fun _ => True) (rdAt s (Int.toNat i) z_impl_Shard).Group.Up) (pGroupBag : SmL Sm_impl_Message (rdAt s (Int.toNat i) z_impl_Shard).Group.Bag) (pGroupAnswers : SmL (fun _ => True) (rdAt s (Int.toNat i) z_impl_Shard).Group.Answers) (hk0 : 0 ≤ k) (hkB : k + (14680070 + 7340035 * ((rdAt s (Int.toNat i) z_impl_Shard).Group.Nodes.length : Int) + 7340037 * ((rdAt s (Int.toNat i) z_impl_Shard).Group.Bag.length : Int)) ≤ B) (hB : B ≤ 4611686018427387904) : Tot (laws_markShardS_7 k i s) Q := by
  have hni : Int.toNat i < s.length := by omega
  rw [laws_markShardS_7_eq]
  have ex11 : wrap64 (k + 1) = k + 1 := w64 (by omega) (by omega)
  try simp only [cond_dec, if_pos hi0, if_pos hi, List.length_set, List.set_set, rd_set _ _ _ hni, ex11]
  rw [mt_eq (k + 1) (by omega) (by omega), Option.bind_some]
  try simp only [cond_dec, if_pos hi0, if_pos hi, List.length_set, List.set_set, rd_set _ _ _ hni]
  exact laws_markShardS_9_h L (k + 1) _ hi0 (by simp only [List.length_set] <;> exact hi) (by simp only [List.length_set] <;> exact hn) (by rw [drop_set _ _ _ hi0] <;> exact hd) hnn (by rw [rd_set _ _ _ hni]; exact pGroupBasePairs) (by rw [rd_set _ _ _ hni]; exact pGroupBaseKnown) (by rw [rd_set _ _ _ hni]; exact pGroupConfMembers) (by rw [rd_set _ _ _ hni]; exact pGroupNodes) (by rw [rd_set _ _ _ hni]; exact pGroupUp) (by rw [rd_set _ _ _ hni]; exact pGroupBag) (by rw [rd_set _ _ _ hni]; exact pGroupAnswers) (by omega) (by first | omega | (rw [rd_set _ _ _ hni]; dsimp only; omega)) hB
theorem laws_markShardS_5_h {Q : _ → Prop} {B : Int} {n : Nat} {d : List impl_Shard} {i : Int} (L : ∀ (k : Int) (s : List impl_Shard), s.length = n → s.drop (i + 1).toNat = d → 0 ≤ k → k ≤ B → Tot (laws_markShardS_2 k (i + 1) s) Q)
    (k : Int) (s : List impl_Shard) (hi0 : 0 ≤ i) (hi : i < s.length) (hn : s.length = n) (hd : s.drop (i + 1).toNat = d) (hnn : n ≤ 1048576) (pGroupBasePairs : SmL (fun _ => True) (rdAt s (Int.toNat i) z_impl_Shard).Group.Base.Pairs) (pGroupBaseKnown : SmL (fun _ => True) (rdAt s (Int.toNat i) z_impl_Shard).Group.Base.Known) (pGroupConfMembers : SmL (fun _ => True) (rdAt s (Int.toNat i) z_impl_Shard).Group.Conf.Members) (pGroupNodes : SmL Sm_impl_Replica (rdAt s (Int.toNat i) z_impl_Shard).Group.Nodes) (pGroupUp : SmL (fun _ => True) (rdAt s (Int.toNat i) z_impl_Shard).Group.Up) (pGroupBag : SmL Sm_impl_Message (rdAt s (Int.toNat i) z_impl_Shard).Group.Bag) (pGroupAnswers : SmL (fun _ => True) (rdAt s (Int.toNat i) z_impl_Shard).Group.Answers) (hk0 : 0 ≤ k) (hkB : k + (14680071 + 7340035 * ((rdAt s (Int.toNat i) z_impl_Shard).Group.Nodes.length : Int) + 7340037 * ((rdAt s (Int.toNat i) z_impl_Shard).Group.Bag.length : Int)) ≤ B) (hB : B ≤ 4611686018427387904) : Tot (laws_markShardS_5 k i s) Q := by
  have hni : Int.toNat i < s.length := by omega
  rw [laws_markShardS_5_eq]
  have ex11 : wrap64 (k + 1) = k + 1 := w64 (by omega) (by omega)
  try simp only [cond_dec, if_pos hi0, if_pos hi, List.length_set, List.set_set, rd_set _ _ _ hni, ex11]
  rw [mt_eq (k + 1) (by omega) (by omega), Option.bind_some]
  try simp only [cond_dec, if_pos hi0, if_pos hi, List.length_set, List.set_set, rd_set _ _ _ hni]
  exact laws_markShardS_7_h L (k + 1) _ hi0 (by simp only [List.length_set] <;> exact hi) (by simp only [List.length_set] <;> exact hn) (by rw [drop_set _ _ _ hi0] <;> exact hd) hnn (by rw [rd_set _ _ _ hni]; exact pGroupBasePairs) (by rw [rd_set _ _ _ hni]; exact pGroupBaseKnown) (by rw [rd_set _ _ _ hni]; exact pGroupConfMembers) (by rw [rd_set _ _ _ hni]; exact pGroupNodes) (by rw [rd_set _ _ _ hni]; exact pGroupUp) (by rw [rd_set _ _ _ hni]; exact pGroupBag) (by rw [rd_set _ _ _ hni]; exact pGroupAnswers) (by omega) (by first | omega | (rw [rd_set _ _ _ hni]; dsimp only; omega)) hB
def wt_impl_Shard (x : impl_Shard) : Int := 14680071 + 7340035 * (x.Group.Nodes.length : Int) + 7340037 * (x.Group.Bag.length : Int)
theorem wt_impl_Shard_pos (x : impl_Shard) : 0 ≤ wt_impl_Shard x := by unfold wt_impl_Shard; omega
def sum_impl_Shard (l : List impl_Shard) : Int := (l.map wt_impl_Shard).sum
theorem sum_impl_Shard_pos : ∀ l : List impl_Shard, 0 ≤ sum_impl_Shard l
  | [] => Int.le_refl _
  | x :: l => by
    have h1 := wt_impl_Shard_pos x
    have h2 := sum_impl_Shard_pos l
    show 0 ≤ wt_impl_Shard x + sum_impl_Shard l
    omega
theorem sum_impl_Shard_drop {s : List impl_Shard} {i : Int} (h0 : 0 ≤ i) (h : i < s.length) : sum_impl_Shard (s.drop i.toNat) = wt_impl_Shard (rdAt s (Int.toNat i) z_impl_Shard) + sum_impl_Shard (s.drop (i + 1).toNat) := by
  cases e : s.drop i.toNat with
  | nil => have := drop_nil h0 (by omega) e; omega
  | cons y ys =>
    obtain ⟨hr, hl, hd⟩ := rd_drop (d := z_impl_Shard) h0 e
    rw [hr, hd]; rfl
theorem markShardS_l (M : Int) (hM : M ≤ 4611686018427387904) : ∀ (j : Nat) (k i : Int) (s : List impl_Shard), i + j = s.length → 0 ≤ i → s.length ≤ 1048576 → (∀ x ∈ s.drop i.toNat, Sm_impl_Shard x) → 0 ≤ k → k + sum_impl_Shard (s.drop i.toNat) ≤ M → Tot (laws_markShardS_2 k i s) (fun r => 0 ≤ r.1 ∧ r.1 ≤ M)
  | 0, k, i, s, hj, hi0, hnn, hp, hk0, hkM => by
    have := sum_impl_Shard_pos (s.drop i.toNat)
    rw [laws_markShardS_2_eq, cond_dec, if_neg (by omega)]
    exact Tot.val ⟨hk0, by show k ≤ M; omega⟩
  | j + 1, k, i, s, hj, hi0, hnn, hp, hk0, hkM => by
    have hi : i < s.length := by omega
    have hni : Int.toNat i < s.length := by omega
    have hn : s.length = s.length := rfl
    have hd : s.drop (i + 1).toNat = s.drop (i + 1).toNat := rfl
    have hpos := sum_impl_Shard_pos (s.drop (i + 1).toNat)
    rw [sum_impl_Shard_drop hi0 hi] at hkM
    have hB : M - sum_impl_Shard (s.drop (i + 1).toNat) ≤ 4611686018427387904 := by omega
    have hkB : k + (14680071 + 7340035 * ((rdAt s (Int.toNat i) z_impl_Shard).Group.Nodes.length : Int) + 7340037 * ((rdAt s (Int.toNat i) z_impl_Shard).Group.Bag.length : Int)) ≤ M - sum_impl_Shard (s.drop (i + 1).toNat) := by unfold wt_impl_Shard at hkM; omega
    have hq : Sm_impl_Shard (rdAt s (Int.toNat i) z_impl_Shard) := hp _ (rd_in hi0 hi)
    have L : ∀ (k2 : Int) (s2 : List impl_Shard), s2.length = s.length → s2.drop (i + 1).toNat = s.drop (i + 1).toNat → 0 ≤ k2 → k2 ≤ M - sum_impl_Shard (s.drop (i + 1).toNat) → Tot (laws_markShardS_2 k2 (i + 1) s2) (fun r => 0 ≤ r.1 ∧ r.1 ≤ M) := fun k2 s2 h1 h2 h3 h4 => markShardS_l M hM j k2 (i + 1) s2 (by omega) (by omega) (by omega) (by rw [h2]; exact fun x hx => hp x (drop_mem hi0 hx)) h3 (by rw [h2]; omega)
    clear hkM
    rw [laws_markShardS_2_eq]
    try simp only [cond_dec, if_pos hi0, if_pos hi, List.length_set, List.set_set, rd_set _ _ _ hni]
    exact laws_markShardS_5_h L (k) _ hi0 (by simp only [List.length_set] <;> exact hi) (by simp only [List.length_set] <;> exact hn) (by rw [drop_set _ _ _ hi0] <;> exact hd) hnn (by rw [rd_set _ _ _ hni]; exact hq.1.1.1) (by rw [rd_set _ _ _ hni]; exact hq.1.1.2.1) (by rw [rd_set _ _ _ hni]; exact hq.1.2.1.1) (by rw [rd_set _ _ _ hni]; exact hq.1.2.2.1) (by rw [rd_set _ _ _ hni]; exact hq.1.2.2.2.1) (by rw [rd_set _ _ _ hni]; exact hq.1.2.2.2.2.1) (by rw [rd_set _ _ _ hni]; exact hq.1.2.2.2.2.2.1) (by omega) (by first | omega | (rw [rd_set _ _ _ hni]; dsimp only; omega)) hB
theorem markShardS_t (s : List impl_Shard) (k : Int) (hs : SmL Sm_impl_Shard s) (h0 : 0 ≤ k) (h1 : k + sum_impl_Shard s ≤ 4611686018427387904) : Tot (laws_markShardS s k) (fun r => 0 ≤ r.1 ∧ r.1 ≤ k + sum_impl_Shard s) := by
  have := hs.1
  rw [laws_markShardS_eq]
  exact markShardS_l (k + sum_impl_Shard s) h1 s.length k 0 s (by omega) (by omega) hs.1 hs.2 h0 (Int.le_refl _)

end Go.Proofs.YtoiddibdlmcecaaGreat.Ev
