/- Lemmas for FnExactReadRoutes: what each function comes to. No condition. -/
import Derived.Test.YtagknifdfpjlbaaDoorLFnExactReadRoutes
namespace Go.Proofs.YtagknifdfpjlbaaDoor.Pure
open Go.RowKit Go.Proofs.YtagknifdfpjlbaaDoor.PFnExactReadRoutes Go.Proofs.YtagknifdfpjlbaaDoorW.PrintWords Go.Proofs.YtagknifdfpjlbaaDoorW.PrintLast Go.Proofs.YtagknifdfpjlbaaDoorW.PrintMore Go.Proofs.YtagknifdfpjlbaaDoor.Lim
set_option linter.unusedVariables false
set_option linter.unusedSimpArgs false

/-! #### basic -/
theorem w64 {n : Int} (h1 : -9223372036854775808 ≤ n) (h2 : n ≤ 9223372036854775807) : wrap64 n = n := by unfold wrap64; omega
theorem rd_drop {xs : List Int} {i : Int} {y : Int} {ys : List Int} (h0 : 0 ≤ i) (h : xs.drop i.toNat = y :: ys) : rd xs i = y ∧ i < xs.length ∧ xs.drop (i + 1).toNat = ys := by
 have h1 : i.toNat < xs.length := by
  by_cases e : i.toNat < xs.length
  ·exact e
  ·rw [List.drop_eq_nil_of_le (by omega)] at h; cases h
 rw [List.drop_eq_getElem_cons h1] at h
 injection h with ha hb
 refine ⟨?_, by omega, ?_⟩
 ·unfold rd; rw [List.getD_eq_getElem?_getD, List.getElem?_eq_getElem h1]; exact ha
 ·rw [show (i + 1).toNat = i.toNat + 1 by omega]; exact hb
theorem drop_nil {α : Type} {xs : List α} {i : Int} (h0 : 0 ≤ i) (hi : i ≤ xs.length) (h : xs.drop i.toNat = []) : i = xs.length := by
 have := congrArg List.length h
 simp at this
 omega
/-! #### bytes -/
/-- A string's bytes as numbers. -/
def bs (s : ByteArray) : List Int := s.data.toList.map fun b => (b.toNat : Int)
theorem bs_length (s : ByteArray) : (bs s).length = s.size := by simp [bs]
theorem bt_bs (s : ByteArray) (i : Int) : bt s i = rd (bs s) i := by
 unfold bt rd bs
 rw [List.getD_eq_getElem?_getD, List.getElem?_map]
 by_cases h : i.toNat < s.size
 ·rw [dif_pos h, List.getElem?_eq_getElem (by simpa using h)]; simp; rfl
 ·rw [dif_neg h, List.getElem?_eq_none (by simpa using h)]; rfl
theorem toList_loop (s : ByteArray) (i : Nat) (r : List UInt8) : ByteArray.toList.loop s i r = r.reverse ++ s.data.toList.drop i := by
 unfold ByteArray.toList.loop
 split
 next h =>
  rw [toList_loop s (i + 1) (s.get! i :: r)]
  have h' : i < s.data.toList.length := by simpa using h
  rw [List.drop_eq_getElem_cons h']
  have : s.get! i = s.data.toList[i] := by
   show s.data[i]! = _
   rw [getElem!_pos s.data i (by simpa using h)]; simp
  rw [this]; simp
 next h =>
  rw [List.drop_eq_nil_of_le (by simpa using h)]; simp
 termination_by s.size - i
theorem toList_data (s : ByteArray) : s.toList = s.data.toList := by
 unfold ByteArray.toList; rw [toList_loop]; simp
theorem toList_nil (s : ByteArray) : s.toList = [] ↔ bs s = [] := by rw [toList_data]; simp [bs]
theorem bs_drop (s : ByteArray) (i j : Nat) (hj : s.size ≤ j) : bs (s.extract i j) = (bs s).drop i := by
 unfold bs
 rw [ByteArray.data_extract, ← List.map_drop]
 congr 1
 rw [Array.toList_extract]
 have : s.data.toList.length = s.size := by simp
 simp only [List.extract]
 rw [List.take_of_length_le (by rw [List.length_drop]; omega)]
/-! #### spec_l1In -/
theorem spec_l1In_f (a lo hi : Int) : spec_l1In.f a lo hi = some (decide (lo ≤ a ∧ a ≤ hi)) := by
 unfold spec_l1In.f
 by_cases h : a ≥ lo
 ·rw [if_pos h]; congr 1; rw [decide_eq_decide]; omega
 ·rw [if_neg h]; congr 1; rw [eq_comm, decide_eq_false_iff_not]; omega

/-! #### words -/
/-- A string of these bytes. -/
def toBA (l : List UInt8) : ByteArray := ⟨l.toArray⟩
theorem toBA_data (s : ByteArray) : toBA s.data.toList = s := rfl
theorem size_data (s : ByteArray) : s.data.toList.length = s.size := Array.length_toList
theorem bt_drop {s : ByteArray} {i : Int} {x : UInt8} {r : List UInt8} (h : s.data.toList.drop i.toNat = x :: r) : bt s i = (x.toNat : Int) ∧ i.toNat < s.size ∧ s.data.toList.drop (i.toNat + 1) = r ∧ s.data.toList.take (i.toNat + 1) = s.data.toList.take i.toNat ++ [x] := by
 have hl : i.toNat < s.data.toList.length := by
  rcases Nat.lt_or_ge i.toNat s.data.toList.length with h' | h'
  ·exact h'
  ·rw [List.drop_eq_nil_of_le h'] at h; cases h
 have e := List.drop_eq_getElem_cons hl
 rw [h] at e
 injection e with e1 e2
 refine ⟨?_, by rw [← size_data]; exact hl, e2.symm, ?_⟩
 ·unfold bt
  rw [dif_pos (show i.toNat < s.size by rw [← size_data]; exact hl), e1]
  simp; rfl
 ·rw [List.take_succ_eq_append_getElem hl, e1]
theorem drop_end {s : ByteArray} {i : Int} (h0 : 0 ≤ i) (h : s.data.toList.drop i.toNat = []) : ¬ i < (s.size : Int) := by
 have := List.drop_eq_nil_iff.1 h
 rw [size_data] at this
 omega
/-- A word put ahead of the first one. -/
def glue (p : List UInt8) : List (List UInt8) → List (List UInt8)
 | [] => [p]
 | x :: xs => (p ++ x) :: xs
/-- The words between the places of a byte. -/
def wsp (c : UInt8) : List UInt8 → List (List UInt8)
 | [] => [[]]
 | b :: r => if b = c then [] :: wsp c r else glue [b] (wsp c r)
theorem glue_glue (p q : List UInt8) (l : List (List UInt8)) : glue p (glue q l) = glue (p ++ q) l := by
 cases l with
 | nil => rfl
 | cons x xs => simp [glue]
theorem glue_nil {l : List (List UInt8)} (h : l ≠ []) : glue [] l = l := by
 cases l with
 | nil => exact absurd rfl h
 | cons x xs => rfl
theorem glue_ne (p : List UInt8) (l : List (List UInt8)) : glue p l ≠ [] := by cases l <;> simp [glue]
theorem wsp_ne (c : UInt8) : ∀ l, wsp c l ≠ []
 | [] => by simp [wsp]
 | b :: r => by
  unfold wsp
  split
  ·simp
  ·exact glue_ne _ _
theorem wsp_app (c : UInt8) : ∀ (p r : List UInt8), c ∉ p → wsp c (p ++ r) = glue p (wsp c r)
 | [], r, _ => by rw [List.nil_append, glue_nil (wsp_ne c r)]
 | b :: p, r, h => by
  have hb : ¬ b = c := fun e => h (by rw [e]; exact List.mem_cons_self)
  rw [List.cons_append]
  show (if b = c then _ else glue [b] (wsp c (p ++ r))) = _
  rw [if_neg hb, wsp_app c p r (fun hp => h (List.mem_cons_of_mem _ hp)), glue_glue]; rfl
theorem wsp_tail (c : UInt8) : ∀ (l : List (List UInt8)), (∀ x ∈ l, c ∉ x) → wsp c (Lib.joinTail [c] l) = [] :: l
 | [], _ => rfl
 | x :: l, h => by
  have e : Lib.joinTail [c] (x :: l) = c :: (x ++ Lib.joinTail [c] l) := by simp [Lib.joinTail]
  rw [e]
  show (if c = c then [] :: wsp c (x ++ Lib.joinTail [c] l) else _) = _
  rw [if_pos rfl, wsp_app c x _ (h x List.mem_cons_self), wsp_tail c l (fun y hy => h y (List.mem_cons_of_mem _ hy))]
  simp [glue]
theorem wsp_join (c : UInt8) (l : List (List UInt8)) (h0 : l ≠ []) (h : ∀ x ∈ l, c ∉ x) : wsp c (Lib.join l [c]) = l := by
 cases l with
 | nil => exact absurd rfl h0
 | cons x l =>
  rw [Lib.join_cons, wsp_app c x _ (h x List.mem_cons_self), wsp_tail c l (fun y hy => h y (List.mem_cons_of_mem _ hy))]
  simp [glue]
theorem index_eq (c : UInt8) (l : List UInt8) : Lib.index (c :: l) [c] = 0 := by rw [Lib.index]; simp [List.isPrefixOf]
theorem index_ne {b c : UInt8} (l : List UInt8) (h : ¬ b = c) : Lib.index (b :: l) [c] = if Lib.index l [c] = -1 then -1 else Lib.index l [c] + 1 := by
 have hp : ([c] : List UInt8).isPrefixOf (b :: l) = false := by simp [List.isPrefixOf]; exact fun e => h e.symm
 rw [Lib.index, hp]
 by_cases e : Lib.index l [c] = -1 <;> simp [e]
theorem splitK_one (c : UInt8) : ∀ l : List UInt8, Lib.splitK [c] 0 (l.count c) l = wsp c l
 | [] => rfl
 | b :: l => by
  by_cases h : b = c
  ·subst h
   rw [List.count_cons_self, Lib.splitK, index_eq]
   show (if ((0 : Int) == -1) = true then _ else _) = _
   rw [if_neg (by decide)]
   show ([] : List UInt8) :: Lib.splitK [b] 0 (l.count b) l = _
   rw [splitK_one b l]
   show _ = if b = b then _ else _
   rw [if_pos rfl]
  ·rw [List.count_cons_of_ne (fun e => h (by simpa using e))]
   have ih := splitK_one c l
   show _ = if b = c then _ else glue [b] (wsp c l)
   rw [if_neg h, ← ih]
   cases hk : l.count c with
   | zero => rfl
   | succ k =>
    have hi : ¬ Lib.index l [c] = -1 := fun e => by
     have := Lib.count_miss e
     rw [Lib.count_one] at this; omega
    have hge := Lib.index_ge l [c]
    obtain ⟨j, hj⟩ : ∃ j : Nat, Lib.index l [c] = j := ⟨(Lib.index l [c]).toNat, by omega⟩
    rw [Lib.splitK, Lib.splitK, index_ne l h, if_neg hi, hj]
    rw [if_neg (show ¬ (((j : Int) + 1 == -1) = true) from fun e => by have := beq_iff_eq.1 e; omega), if_neg (show ¬ (((j : Int) == -1) = true) from fun e => by have := beq_iff_eq.1 e; omega)]
    rw [show ((j : Int) + 1).toNat = j + 1 by omega, show ((j : Int)).toNat = j by omega]
    rfl
/-- A text's part ahead of a byte, behind it, and whether it has one. -/
def cut1 (c : UInt8) : List UInt8 → List UInt8 × List UInt8 × Bool
 | [] => ([], [], false)
 | b :: r => if b = c then ([], r, true) else (b :: (cut1 c r).1, (cut1 c r).2.1, (cut1 c r).2.2)
theorem cut_one (c : UInt8) : ∀ l : List UInt8, Lib.cut l [c] = cut1 c l
 | [] => rfl
 | b :: l => by
  have ih := cut_one c l
  unfold Lib.cut at ih ⊢
  by_cases h : b = c
  ·subst h
   rw [index_eq]
   show (if (0 : Int) ≤ 0 then _ else _) = if b = b then _ else _
   rw [if_pos (by omega), if_pos rfl]; rfl
  ·show _ = if b = c then _ else (b :: (cut1 c l).1, (cut1 c l).2.1, (cut1 c l).2.2)
   rw [if_neg h, ← ih, index_ne l h]
   have hge := Lib.index_ge l [c]
   by_cases e : Lib.index l [c] = -1
   ·rw [if_pos e, e]; rfl
   ·obtain ⟨j, hj⟩ : ∃ j : Nat, Lib.index l [c] = j := ⟨(Lib.index l [c]).toNat, by omega⟩
    rw [if_neg e, hj, if_pos (by omega), if_pos (by omega), show ((j : Int) + 1).toNat = j + 1 by omega, show ((j : Int)).toNat = j by omega]
    rfl
theorem cut1_app (c : UInt8) : ∀ (p r : List UInt8), c ∉ p → cut1 c (p ++ c :: r) = (p, r, true)
 | [], r, _ => by show (if c = c then _ else _) = _; rw [if_pos rfl]
 | b :: p, r, h => by
  have hb : ¬ b = c := fun e => h (by rw [e]; exact List.mem_cons_self)
  show (if b = c then _ else (b :: (cut1 c (p ++ c :: r)).1, (cut1 c (p ++ c :: r)).2.1, (cut1 c (p ++ c :: r)).2.2)) = _
  rw [if_neg hb, cut1_app c p r (fun hp => h (List.mem_cons_of_mem _ hp))]
theorem strings_Split_e (s : ByteArray) (c : UInt8) (hs : s.size ≤ 2000000) : strings_Split.f s (⟨#[c]⟩ : ByteArray) = some ((wsp c s.data.toList).map toBA) := by
 have e : (Lib.splitB (⟨#[c]⟩ : ByteArray) 0 (Lib.countB s ⟨#[c]⟩) s).map (fun b => b.data.toList) = wsp c s.data.toList := by
  rw [Lib.splitB_data]
  show Lib.splitK [c] 0 (Lib.count s.data.toList [c]) s.data.toList = _
  rw [Lib.count_one, splitK_one]
 unfold strings_Split.f
 rw [if_pos ⟨by omega, by show 1 ≤ 1; omega⟩, ← e, List.map_map]
 congr 1
 exact (List.map_id _).symm
theorem strings_Cut_e (s : ByteArray) (c : UInt8) (hs : s.size ≤ 2000000) : strings_Cut.f s (⟨#[c]⟩ : ByteArray) = some (toBA (cut1 c s.data.toList).1, toBA (cut1 c s.data.toList).2.1, (cut1 c s.data.toList).2.2) := by
 unfold strings_Cut.f
 rw [if_pos (by omega)]
 show some (toBA (Lib.cut s.data.toList [c]).1, toBA (Lib.cut s.data.toList [c]).2.1, (Lib.cut s.data.toList [c]).2.2) = _
 rw [cut_one]
theorem byte_eq {x c : UInt8} : ((x.toNat : Int) = (c.toNat : Int)) ↔ x = c := ⟨fun h => UInt8.toNat_inj.1 (by omega), fun h => by rw [h]⟩
theorem ext_data (s : ByteArray) (i j : Nat) : (s.extract i j).data.toList = (s.data.toList.take j).drop i := by
 rw [ByteArray.data_extract, Array.toList_extract]
 simp [List.extract, List.drop_take]
theorem spec_l7Words_l0 (s : ByteArray) (hs : s.size ≤ 2000000) : ∀ (r : List UInt8) (i : Int) (out : List ByteArray) (cur : ByteArray), 0 ≤ i → s.data.toList.drop i.toNat = r → (out.length : Int) ≤ i → (cur.size : Int) ≤ i →
  spec_l7Words.l0L s (out ++ [cur]) i = some (out ++ (glue cur.data.toList (wsp 32 r)).map toBA)
 | [], i, out, cur, h0, hd, ho, hc => by
  rw [spec_l7Words.l0L_eq, if_neg (drop_end h0 hd)]
  simp [wsp, glue]; rfl
 | x :: r, i, out, cur, h0, hd, ho, hc => by
  obtain ⟨hb, hl, hd', ht⟩ := bt_drop hd
  have hi : (i + 1).toNat = i.toNat + 1 := by omega
  rw [spec_l7Words.l0L_eq, if_pos (by omega), if_pos h0, hb]
  have hw : wsp 32 (x :: r) = if x = 32 then [] :: wsp 32 r else glue [x] (wsp 32 r) := rfl
  by_cases h : x = 32
  ·have ih := spec_l7Words_l0 s hs r (i + 1) (out ++ [cur]) ⟨#[]⟩ (by omega) (by rw [hi]; exact hd') (by simp; omega) (by show ((0 : Nat) : Int) ≤ _; omega)
   rw [if_pos (by rw [h]; rfl), if_pos (by simp; omega), w64 (by omega) (by omega), ih, hw, if_pos h]
   have e : glue (⟨#[]⟩ : ByteArray).data.toList (wsp 32 r) = wsp 32 r := glue_nil (wsp_ne 32 r)
   rw [e]
   simp [glue]; rfl
  ·have hne : ¬ (x.toNat : Int) = 32 := fun e => h (byte_eq.1 e)
   have hlen : (((out ++ [cur]).length : Nat) : Int) - 1 = (out.length : Int) := by simp
   have hx : s.extract i.toNat (i + 1).toNat = ⟨#[x]⟩ := by
    have : (s.extract i.toNat (i + 1).toNat).data.toList = [x] := by
     rw [ext_data, hi, ht, List.drop_left' (by rw [List.length_take, size_data]; omega)]
    rw [← toBA_data (s.extract i.toNat (i + 1).toNat), this]; rfl
   have hg : rdOf ByteArray.empty (out ++ [cur]) (out.length : Int) = cur := by unfold rdOf; simp
   have hset : (out ++ [cur]).set (out.length : Int).toNat (cur ++ ⟨#[x]⟩) = out ++ [cur ++ ⟨#[x]⟩] := by simp
   have hcs : (cur ++ (⟨#[x]⟩ : ByteArray)).size = cur.size + 1 := by rw [ByteArray.size_append]; rfl
   have hcd : (cur ++ (⟨#[x]⟩ : ByteArray)).data.toList = cur.data.toList ++ [x] := by simp
   have ih := spec_l7Words_l0 s hs r (i + 1) out (cur ++ ⟨#[x]⟩) (by omega) (by rw [hi]; exact hd') (by omega) (by rw [hcs]; omega)
   rw [if_neg hne, w64 (n := (((out ++ [cur]).length : Nat) : Int) - 1) (by rw [hlen]; omega) (by rw [hlen]; omega), hlen, w64 (n := i + 1) (by omega) (by omega), if_pos (by omega), if_pos (by simp; omega), if_pos (by omega), if_pos (by omega), hx, hg, if_pos (by show cur.size + 1 ≤ _; omega), hset, ih, hw, if_neg h, hcd, glue_glue]
theorem spec_l7Words_f (s : ByteArray) (hs : s.size ≤ 2000000) : spec_l7Words.fL s = some ((wsp 32 s.data.toList).map toBA) := by
 have h := spec_l7Words_l0 s hs s.data.toList 0 [] ⟨#[]⟩ (by omega) (by simp) (by simp) (by show ((0 : Nat) : Int) ≤ _; omega)
 have e : glue (⟨#[]⟩ : ByteArray).data.toList (wsp 32 s.data.toList) = wsp 32 s.data.toList := glue_nil (wsp_ne 32 _)
 rw [e, List.nil_append, List.nil_append] at h
 rw [spec_l7Words.fL_eq]
 exact h
theorem spec_l41Split_l0 (s : ByteArray) (hs : s.size ≤ 2000000) (c : UInt8) : ∀ (r : List UInt8) (i : Int), 0 ≤ i → s.data.toList.drop i.toNat = r →
  spec_l41Split.l0L s (c.toNat : Int) i = some (toBA (s.data.toList.take i.toNat ++ (cut1 c r).1), toBA (cut1 c r).2.1, (cut1 c r).2.2)
 | [], i, h0, hd => by
  rw [spec_l41Split.l0L_eq, if_neg (drop_end h0 hd)]
  have : s.data.toList.take i.toNat = s.data.toList := List.take_of_length_le (List.drop_eq_nil_iff.1 hd)
  show _ = some (toBA (s.data.toList.take i.toNat ++ []), toBA [], false)
  rw [this, List.append_nil, toBA_data]; rfl
 | x :: r, i, h0, hd => by
  obtain ⟨hb, hl, hd', ht⟩ := bt_drop hd
  have hi : (i + 1).toNat = i.toNat + 1 := by omega
  have hw : cut1 c (x :: r) = if x = c then ([], r, true) else (x :: (cut1 c r).1, (cut1 c r).2.1, (cut1 c r).2.2) := rfl
  rw [spec_l41Split.l0L_eq, if_pos (by omega), if_pos h0, hb, w64 (by omega) (by omega), hw]
  by_cases h : x = c
  ·rw [if_pos (by rw [h]), if_pos (by omega), if_pos (by omega), if_pos (by omega), if_pos h]
   have e1 : s.extract 0 i.toNat = toBA (s.data.toList.take i.toNat) := by rw [← toBA_data (s.extract 0 i.toNat), ext_data]; rfl
   have e2 : s.extract (i + 1).toNat s.size = toBA r := by
    rw [← toBA_data (s.extract (i + 1).toNat s.size), ext_data, List.take_of_length_le (by rw [size_data]; omega), hi, hd']
   rw [e1, e2, List.append_nil]
  ·rw [if_neg (fun e => h (byte_eq.1 e)), spec_l41Split_l0 s hs c r (i + 1) (by omega) (by rw [hi]; exact hd'), if_neg h, hi, ht]
   simp
theorem spec_l41Split_f (s : ByteArray) (hs : s.size ≤ 2000000) (c : UInt8) : spec_l41Split.fL s (c.toNat : Int) = some (toBA (cut1 c s.data.toList).1, toBA (cut1 c s.data.toList).2.1, (cut1 c s.data.toList).2.2) := by
 rw [spec_l41Split.fL_eq, spec_l41Split_l0 s hs c s.data.toList 0 (by omega) (by simp)]; rfl
/-- A numeral's value. -/
def dv : Nat → List UInt8 → Nat
 | acc, [] => acc
 | acc, x :: r => dv (acc * 10 + (x.toNat - 48)) r
theorem dv_app : ∀ (l : List UInt8) (acc : Nat) (x : UInt8), dv acc (l ++ [x]) = dv acc l * 10 + (x.toNat - 48)
 | [], acc, x => rfl
 | y :: l, acc, x => dv_app l _ x
def digits (l : List UInt8) : Prop := ∀ x ∈ l, 48 ≤ x.toNat ∧ x.toNat ≤ 57
theorem dig_toNat (d : Nat) (h : d < 10) : (UInt8.ofNat (48 + d)).toNat = 48 + d := by
 rw [UInt8.toNat_ofNat']; omega
theorem dec_says (v : Nat) : digits (Lib.decDigits v) ∧ dv 0 (Lib.decDigits v) = v ∧ Lib.decDigits v ≠ [] := by
 induction v using Nat.strongRecOn with
 | _ v ih =>
  rw [Lib.decDigits]
  by_cases h : v < 10
  ·rw [dif_pos h]
   refine ⟨fun x hx => ?_, ?_, by simp⟩
   ·rw [List.mem_singleton.1 hx, dig_toNat v h]; omega
   ·show 0 * 10 + ((UInt8.ofNat (48 + v)).toNat - 48) = v
    rw [dig_toNat v h]; omega
  ·obtain ⟨h1, h2, _⟩ := ih (v / 10) (by omega)
   rw [dif_neg h]
   have e := dig_toNat (v % 10) (by omega)
   refine ⟨fun x hx => ?_, ?_, by simp⟩
   ·rcases List.mem_append.1 hx with hx | hx
    ·exact h1 x hx
    ·rw [List.mem_singleton.1 hx, e]; omega
   ·rw [dv_app, h2, e]; omega
theorem dec_len : ∀ (k v : Nat), 1 ≤ k → v < 10 ^ k → (Lib.decDigits v).length ≤ k
 | 0, v, h, _ => by omega
 | k + 1, v, h, hv => by
  rw [Lib.decDigits]
  by_cases c : v < 10
  ·rw [dif_pos c]; simp
  ·rw [dif_neg c]
   rw [Nat.pow_succ] at hv
   have hk : 1 ≤ k := by
    cases k with
    | zero => simp at hv; omega
    | succ k => omega
   have := dec_len k (v / 10) hk (by omega)
   simp; omega
theorem itoa_nat (v : Nat) : Lib.itoa (v : Int) = Lib.decDigits v := by unfold Lib.itoa; rw [if_neg (by omega)]; simp
theorem parse_dv : ∀ (r : List UInt8) (acc j : Nat), digits r → acc < 10 ^ j → j + r.length ≤ 8 → Lib.parseUint10 acc r = .ok (dv acc r)
 | [], acc, j, _, _, _ => rfl
 | x :: r, acc, j, hd, ha, hj => by
  have hx := hd x List.mem_cons_self
  rw [List.length_cons] at hj
  have hp : 10 ^ j ≤ 10 ^ 8 := Nat.pow_le_pow_right (by omega) (by omega)
  have hp8 : (10 : Nat) ^ 8 = 100000000 := by decide
  have ih := parse_dv r (acc * 10 + (x.toNat - 48)) (j + 1) (fun y hy => hd y (List.mem_cons_of_mem _ hy)) (by rw [Nat.pow_succ]; omega) (by omega)
  rw [Lib.parseUint10, if_pos hx, if_neg (by omega), if_neg (by omega), ih]; rfl
theorem number_dv (s : ByteArray) (hs : s.size ≤ 8) : ∀ (r : List UInt8) (acc j : Nat) (i : Int), 0 ≤ i → s.data.toList.drop i.toNat = r → digits r → acc < 10 ^ j → j + r.length ≤ 8 → spec_l7Number.l0L s (acc : Int) i = some (dv acc r : Int)
 | [], acc, j, i, h0, hd, _, _, _ => by rw [spec_l7Number.l0L_eq, if_neg (drop_end h0 hd)]; rfl
 | x :: r, acc, j, i, h0, hd, hg, ha, hj => by
  obtain ⟨hb, hl, hd', _⟩ := bt_drop hd
  have hi : (i + 1).toNat = i.toNat + 1 := by omega
  have hx := hg x List.mem_cons_self
  rw [List.length_cons] at hj
  have hp : 10 ^ j ≤ 10 ^ 8 := Nat.pow_le_pow_right (by omega) (by omega)
  have hp8 : (10 : Nat) ^ 8 = 100000000 := by decide
  have ih := number_dv s hs r (acc * 10 + (x.toNat - 48)) (j + 1) (i + 1) (by omega) (by rw [hi]; exact hd') (fun y hy => hg y (List.mem_cons_of_mem _ hy)) (by rw [Nat.pow_succ]; omega) (by omega)
  have e : wrap64 (wrap64 (10 * (acc : Int)) + ((x.toNat : Int) - 48) % 256) = ((acc * 10 + (x.toNat - 48) : Nat) : Int) := by
   rw [w64 (n := 10 * (acc : Int)) (by omega) (by omega), w64 (by omega) (by omega)]; omega
  rw [spec_l7Number.l0L_eq, if_pos (by omega), if_pos h0, hb, if_neg (by omega), if_neg (by omega), e, w64 (by omega) (by omega), ih]; rfl
theorem spec_l7Number_itoa (v : Int) (h0 : 0 ≤ v) (h1 : v ≤ 999) : spec_l7Number.fL (toBA (Lib.itoa v)) = some v := by
 obtain ⟨n, rfl⟩ := Int.eq_ofNat_of_zero_le h0
 obtain ⟨d1, d2, d3⟩ := dec_says n
 have hl := dec_len 3 n (by omega) (by show n < 1000; omega)
 have hp : 0 < (Lib.decDigits n).length := List.length_pos_iff.2 d3
 rw [itoa_nat]
 have hz : (toBA (Lib.decDigits n)).size = (Lib.decDigits n).length := by simp [toBA, ByteArray.size]
 have hn : spec_l7Number.l0L (toBA (Lib.decDigits n)) ((0 : Nat) : Int) 0 = some (dv 0 (Lib.decDigits n) : Int) := number_dv (toBA (Lib.decDigits n)) (by omega) (Lib.decDigits n) 0 0 0 (by omega) rfl d1 (by simp) (by omega)
 rw [spec_l7Number.fL_eq, spec_l1In_f, Option.bind_some, if_pos (by rw [hz]; exact decide_eq_true ⟨by omega, by omega⟩)]
 rw [d2] at hn
 exact hn
theorem impl_numberOf_itoa (v : Int) (h0 : 0 ≤ v) (h1 : v ≤ 999) : impl_numberOf.f (toBA (Lib.itoa v)) = some v := by
 obtain ⟨n, rfl⟩ := Int.eq_ofNat_of_zero_le h0
 obtain ⟨d1, d2, d3⟩ := dec_says n
 have hl := dec_len 3 n (by omega) (by show n < 1000; omega)
 rw [itoa_nat]
 have hz : (toBA (Lib.decDigits n)).size = (Lib.decDigits n).length := by simp [toBA, ByteArray.size]
 have hp : Lib.parseUint10 0 (Lib.decDigits n) = .ok n := by rw [parse_dv _ 0 0 d1 (by simp) (by omega), d2]
 have ha : Lib.atoiAll (Lib.decDigits n) = .ok (n : Int) := by
  cases hc : Lib.decDigits n with
  | nil => exact absurd hc d3
  | cons c r =>
   have hcd := d1 c (by rw [hc]; exact List.mem_cons_self)
   have hm : Lib.parseMag (c :: r) = .ok n := by
    unfold Lib.parseMag
    rw [if_neg (by simp), ← hc, hp]
   have h43 : ¬ (c.toNat = 43 ∨ c.toNat = 45) := by omega
   have h45 : ¬ (c.toNat = 45) := by omega
   have hm' : Lib.parseMag (if c.toNat = 43 ∨ c.toNat = 45 then r else c :: r) = .ok n := by rw [if_neg h43, hm]
   have hz' : ¬ (¬ (c.toNat = 45) ∧ 9223372036854775808 ≤ n) := by omega
   have hz2 : ¬ (c.toNat = 45 ∧ 9223372036854775808 < n) := by omega
   unfold Lib.atoiAll
   simp only [hm']
   rw [if_neg hz', if_neg hz2, if_neg h45]
 unfold impl_numberOf.f
 rw [if_pos (by rw [hz]; omega)]
 show some (numOr (Lib.atoiAll (Lib.decDigits n))) = _
 rw [ha]; rfl

/-! #### keys -/
def letters (l : List Int) : Bool := l.all fun b => decide (97 ≤ b ∧ b ≤ 122)
/-- KeyValid, over the bytes. -/
def keyOk (l : List Int) : Bool := decide (1 ≤ l.length ∧ l.length ≤ 4) && letters l
theorem rd_zero {l : List Int} {b : Int} {t : List Int} (h : l = b :: t) : rd l 0 = b := by subst h; rfl
theorem impl_lettersOnly_f : ∀ (l : List Int) (s : ByteArray), bs s = l → impl_lettersOnly.fL s = some (letters l)
 | [], s, h => by rw [impl_lettersOnly.fL_eq, if_pos ((toList_nil s).2 h)]; rfl
 | b :: l, s, h => by
  have hs : s.size = l.length + 1 := by rw [← bs_length, h]; rfl
  have hn : ¬ s.toList = [] := by rw [toList_nil, h]; simp
  have hd : bs (s.extract 1 s.size) = l := by rw [bs_drop s 1 s.size (Nat.le_refl _), h]; rfl
  rw [impl_lettersOnly.fL_eq, if_neg hn, if_pos (by omega), bt_bs, rd_zero h, if_pos (by omega : (1 : Int) ≤ (s.size : Int)), impl_lettersOnly_f l _ hd, Option.bind_some]
  unfold letters
  rw [List.all_cons]
  by_cases h1 : b ≥ 97
  ·rw [if_pos h1]
   by_cases h2 : b ≤ 122
   ·rw [if_pos h2, show decide (97 ≤ b ∧ b ≤ 122) = true from decide_eq_true ⟨h1, h2⟩]; rfl
   ·rw [if_neg h2, show decide (97 ≤ b ∧ b ≤ 122) = false from decide_eq_false (by omega)]; rfl
  ·rw [if_neg h1, show decide (97 ≤ b ∧ b ≤ 122) = false from decide_eq_false (by omega)]; rfl
theorem impl_KeyValid_f (s : ByteArray) : impl_KeyValid.fL s = some (keyOk (bs s)) := by
 rw [impl_KeyValid.fL_eq, impl_lettersOnly_f _ s rfl, Option.bind_some]
 unfold keyOk
 rw [bs_length]
 by_cases h1 : (s.size : Int) < 1
 ·rw [if_pos h1, decide_eq_false (by omega)]; rfl
 ·rw [if_neg h1]
  by_cases h2 : (s.size : Int) > 4
  ·rw [if_pos h2, decide_eq_false (by omega)]; rfl
  ·rw [if_neg h2, decide_eq_true (by omega)]; rfl
theorem keyOk_len {l : List Int} (h : keyOk l = true) : 1 ≤ l.length ∧ l.length ≤ 4 := by
 simp only [keyOk, Bool.and_eq_true, decide_eq_true_eq] at h; exact h.1
theorem keyOk_letters {l : List Int} (h : keyOk l = true) : letters l = true := by
 simp only [keyOk, Bool.and_eq_true, decide_eq_true_eq] at h; exact h.2
theorem letters_cons {b : Int} {l : List Int} (h : letters (b :: l) = true) : (97 ≤ b ∧ b ≤ 122) ∧ letters l = true := by
 simp only [letters, List.all_cons, Bool.and_eq_true, decide_eq_true_eq] at h
 exact ⟨h.1, by simp only [letters]; exact h.2⟩

/-! #### valueValid -/
/-! #### spec_KeyValid -/
theorem spec_KeyValid_l0 (s : ByteArray) (hs : s.size ≤ 1000) : ∀ (ys : List Int) (i : Int), 0 ≤ i → i ≤ s.size → (bs s).drop i.toNat = ys → spec_KeyValid.l0L s i = some (letters ys)
 | [], i, h0, h1, hd => by
  have := drop_nil h0 (by rw [bs_length]; exact h1) hd
  rw [bs_length] at this
  rw [spec_KeyValid.l0L_eq, if_neg (by omega)]; rfl
 | y :: ys, i, h0, h1, hd => by
  obtain ⟨hr, hl, hd'⟩ := rd_drop h0 hd
  rw [bs_length] at hl
  rw [spec_KeyValid.l0L_eq, if_pos hl, if_pos h0, bt_bs, hr, w64 (by omega) (by omega)]
  unfold letters
  rw [List.all_cons]
  by_cases e1 : y < 97
  ·rw [if_pos e1, decide_eq_false (by omega)]; rfl
  ·rw [if_neg e1]
   by_cases e2 : y > 122
   ·rw [if_pos e2, decide_eq_false (by omega)]; rfl
   ·rw [if_neg e2, decide_eq_true (by omega), spec_KeyValid_l0 s hs ys (i + 1) (by omega) (by omega) hd']; rfl
theorem spec_KeyValid_f (s : ByteArray) : spec_KeyValid.fL s = some (keyOk (bs s)) := by
 rw [spec_KeyValid.fL_eq, spec_l1In_f, Option.bind_some]
 unfold keyOk
 rw [bs_length]
 by_cases h : 1 ≤ (s.size : Int) ∧ (s.size : Int) ≤ 4
 ·rw [if_pos (by simpa using h), decide_eq_true (by omega), spec_KeyValid_l0 s (by omega) (bs s) 0 (by omega) (by omega) (by simp)]; rfl
 ·rw [if_neg (by simpa using h), decide_eq_false (by omega)]; rfl

/-! #### pairs -/
theorem getD_cons {α : Type} {xs : List α} {d : α} {i : Int} {y : α} {ys : List α} (h0 : 0 ≤ i) (h : xs.drop i.toNat = y :: ys) : xs.getD i.toNat d = y ∧ i < xs.length ∧ xs.drop (i + 1).toNat = ys := by
 have h1 : i.toNat < xs.length := by
  by_cases e : i.toNat < xs.length
  ·exact e
  ·rw [List.drop_eq_nil_of_le (by omega)] at h; cases h
 rw [List.drop_eq_getElem_cons h1] at h
 injection h with ha hb
 refine ⟨?_, by omega, ?_⟩
 ·rw [List.getD_eq_getElem?_getD, List.getElem?_eq_getElem h1]; exact ha
 ·rw [show (i + 1).toNat = i.toNat + 1 by omega]; exact hb

/-! #### readnum -/
theorem letters_mem {l : List UInt8} (h : letters (l.map fun b => (b.toNat : Int)) = true) : ∀ b ∈ l, 97 ≤ b.toNat ∧ b.toNat ≤ 122 := by
 intro b hb
 unfold letters at h
 have := List.all_eq_true.1 h (b.toNat : Int) (List.mem_map.2 ⟨b, hb, rfl⟩)
 have := of_decide_eq_true this
 omega
theorem digits_itoa {v : Int} (h0 : 0 ≤ v) : digits (Lib.itoa v) := by
 obtain ⟨n, rfl⟩ := Int.eq_ofNat_of_zero_le h0
 rw [itoa_nat]
 exact (dec_says n).1
def numI (s : ByteArray) : Int := numOr (Lib.atoiAll s.data.toList)
noncomputable def numS (s : ByteArray) : Int := (spec_l7Number.fL s).getD 0
theorem numI_itoa (v : Int) (h0 : 0 ≤ v) (h1 : v ≤ 999) : numI (toBA (Lib.itoa v)) = v := by
 have h := impl_numberOf_itoa v h0 h1
 unfold impl_numberOf.f at h
 split at h
 ·exact Option.some.inj h
 ·cases h
theorem numS_itoa (v : Int) (h0 : 0 ≤ v) (h1 : v ≤ 999) : numS (toBA (Lib.itoa v)) = v := by unfold numS; rw [spec_l7Number_itoa v h0 h1]; rfl
theorem wsp_sizes (c : UInt8) : ∀ (l : List UInt8), (∀ x ∈ wsp c l, x.length ≤ l.length) ∧ (wsp c l).length ≤ l.length + 1
 | [] => by simp [wsp]
 | b :: r => by
  obtain ⟨h1, h2⟩ := wsp_sizes c r
  show (∀ x ∈ (if b = c then [] :: wsp c r else glue [b] (wsp c r)), _) ∧ (if b = c then [] :: wsp c r else glue [b] (wsp c r)).length ≤ _
  split
  ·refine ⟨fun x hx => ?_, by simp; omega⟩
   rcases List.mem_cons.1 hx with rfl | hx
   ·simp
   ·have := h1 x hx; simp; omega
  ·cases hw : wsp c r with
   | nil => exact absurd hw (wsp_ne c r)
   | cons y ys =>
    rw [hw] at h1 h2
    refine ⟨fun x hx => ?_, by simp [glue] at h2 ⊢; omega⟩
    rcases List.mem_cons.1 hx with rfl | hx
    ·have := h1 y List.mem_cons_self; simp; omega
    ·have := h1 x (List.mem_cons_of_mem _ hx); simp; omega
theorem cut1_len (c : UInt8) : ∀ l : List UInt8, (cut1 c l).2.1.length ≤ l.length
 | [] => by simp [cut1]
 | b :: r => by
  have := cut1_len c r
  show (if b = c then ([], r, true) else (b :: (cut1 c r).1, (cut1 c r).2.1, (cut1 c r).2.2)).2.1.length ≤ _
  split
  ·simp
  ·simp; omega
theorem size_toBA (l : List UInt8) : (toBA l).size = l.length := by simp [toBA, ByteArray.size]
theorem strAt_drop {xs : List ByteArray} {i : Int} {y : ByteArray} {ys : List ByteArray} (h0 : 0 ≤ i) (hd : xs.drop i.toNat = y :: ys) : rdOf ByteArray.empty xs i = y ∧ i < (xs.length : Int) ∧ xs.drop (i + 1).toNat = ys := by
 obtain ⟨a, b, c⟩ := getD_cons (d := ByteArray.empty) h0 hd
 exact ⟨a, b, c⟩
theorem ba_list {a b : ByteArray} : a.toList = b.toList ↔ a = b := by
 rw [toList_data, toList_data]
 exact ⟨fun h => by rw [← toBA_data a, h, toBA_data], fun h => by rw [h]⟩
theorem spec_l7Number_all (s : ByteArray) : ∃ r, spec_l7Number.fL s = some r := by
 rw [spec_l7Number.fL_eq, spec_l1In_f, Option.bind_some]
 by_cases h : (1 : Int) ≤ s.size ∧ (s.size : Int) ≤ 4
 ·rw [if_pos (decide_eq_true h)]
  have loop : ∀ (n : Nat) (i acc : Int), (s.size : Int) - i ≤ n → 0 ≤ i → ∃ r, spec_l7Number.l0L s acc i = some r := by
   intro n
   induction n with
   | zero =>
    intro i acc hn h0
    rw [spec_l7Number.l0L_eq, if_neg (by omega)]; exact ⟨_, rfl⟩
   | succ n ih =>
    intro i acc hn h0
    rw [spec_l7Number.l0L_eq]
    split
    ·split
     ·exact ⟨_, rfl⟩
     ·split
      ·exact ⟨_, rfl⟩
      ·rw [w64 (n := i + 1) (by omega) (by omega)]
       exact ih _ _ (by omega) (by omega)
    ·exact ⟨_, rfl⟩
  exact loop 4 0 0 (by omega) (by omega)
 ·rw [if_neg (by rw [decide_eq_false h]; simp)]; exact ⟨_, rfl⟩

/-! #### l7Text -/
theorem dig_of (a : Nat) (h1 : a ≤ 1000000) : strOfNums ([(wrap64 (48 + (Int.tmod (a : Int) 10))) % 256] : List Int) = ⟨#[UInt8.ofNat (48 + a % 10)]⟩ := by
 have : ((wrap64 (48 + Int.tmod (a : Int) 10)) % 256).toNat = 48 + a % 10 := by
  rw [Int.tmod_eq_emod_of_nonneg (by omega), w64 (by omega) (by omega)]; omega
 unfold strOfNums
 rw [List.map_cons, List.map_nil, this]
theorem l7_loop (a : Nat) : ∀ (b : ByteArray), a + b.size ≤ 1000000 → spec_l7Text.l0L (a : Int) b = some ⟨((if a < 10 then [] else Lib.decDigits (a / 10)) ++ b.data.toList).toArray⟩ := by
 induction a using Nat.strongRecOn with
 | _ a ih =>
  intro b h
  rw [spec_l7Text.l0L_eq]
  by_cases h9 : a < 10
  ·rw [if_neg (by omega), if_pos h9, List.nil_append]
  ·have e1 : wrap64 (Int.tdiv (a : Int) 10) = ((a / 10 : Nat) : Int) := by
    rw [Int.tdiv_eq_ediv_of_nonneg (by omega), w64 (by omega) (by omega)]; omega
   have hs : ((⟨#[UInt8.ofNat (48 + a / 10 % 10)]⟩ : ByteArray) ++ b).size = b.size + 1 := by rw [ByteArray.size_append]; show 1 + b.size = _; omega
   have hd : ((⟨#[UInt8.ofNat (48 + a / 10 % 10)]⟩ : ByteArray) ++ b).data.toList = UInt8.ofNat (48 + a / 10 % 10) :: b.data.toList := by simp
   rw [if_pos (by omega), e1, Option.bind_some, dig_of _ (by omega), if_pos (show (⟨#[UInt8.ofNat (48 + a / 10 % 10)]⟩ : ByteArray).size + b.size ≤ 9223372036854775807 by show 1 + b.size ≤ _; omega), ih (a / 10) (by omega) _ (by omega), if_neg h9, hd]
   by_cases h2 : a / 10 < 10
   ·rw [if_pos h2, Lib.decDigits, dif_pos h2, Nat.mod_eq_of_lt h2]; rfl
   ·rw [if_neg h2, Lib.decDigits.eq_1 (a / 10), dif_neg h2, List.append_assoc]; rfl
theorem spec_l7Text_f (n : Int) (h0 : 0 ≤ n) (h1 : n ≤ 100000) : spec_l7Text.fL n = some ⟨(Lib.itoa n).toArray⟩ := by
 obtain ⟨a, rfl⟩ := Int.eq_ofNat_of_zero_le h0
 have hs : (⟨#[UInt8.ofNat (48 + a % 10)]⟩ : ByteArray).size = 1 := rfl
 have e : Lib.itoa (a : Int) = Lib.decDigits a := by unfold Lib.itoa; rw [if_neg (by omega)]; simp
 rw [spec_l7Text.fL_eq, if_neg (by omega), dig_of _ (by omega), l7_loop a _ (by omega), e, Lib.decDigits.eq_1 a]
 by_cases h2 : a < 10
 ·rw [if_pos h2, dif_pos h2, Nat.mod_eq_of_lt h2]; rfl
 ·rw [if_neg h2, dif_neg h2]
theorem decDigits_len (u : Nat) : (Lib.decDigits u).length ≤ u + 1 := by
 induction u using Nat.strongRecOn with
 | _ u ih =>
  rw [Lib.decDigits]
  by_cases h : u < 10
  ·rw [dif_pos h]; simp
  ·have := ih (u / 10) (by omega)
   rw [dif_neg h, List.length_append]
   simp only [List.length_cons, List.length_nil]
   omega
theorem itoa_len {n : Int} (h0 : 0 ≤ n) (h1 : n ≤ 999) : (Lib.itoa n).length ≤ 1000 := by
 unfold Lib.itoa
 rw [if_neg (by omega)]
 have := decDigits_len n.toNat
 omega
theorem strconv_Itoa_e {n : Int} (h0 : 0 ≤ n) (h1 : n ≤ 100000) : strconv_Itoa.f n = some ⟨(Lib.itoa n).toArray⟩ := by
 unfold strconv_Itoa.f
 rw [if_pos ⟨by omega, by omega⟩]
theorem joinTail_len : ∀ (l : List (List UInt8)) (m : Nat), (∀ x ∈ l, x.length ≤ m) → (Lib.joinTail [32] l).length ≤ (m + 1) * l.length
 | [], m, _ => by simp [Lib.joinTail]
 | x :: l, m, h => by
  have h1 := h x List.mem_cons_self
  have h2 := joinTail_len l m (fun y hy => h y (List.mem_cons_of_mem _ hy))
  have e : Lib.joinTail [32] (x :: l) = 32 :: x ++ Lib.joinTail [32] l := by simp [Lib.joinTail]
  rw [e, List.length_append, List.length_cons, List.length_cons, Nat.mul_add, Nat.mul_one]
  omega
theorem join_len (l : List (List UInt8)) (m : Nat) (h : ∀ x ∈ l, x.length ≤ m) : (Lib.join l [32]).length ≤ (m + 1) * l.length := by
 cases l with
 | nil => simp [Lib.join_nil]
 | cons x l =>
  have h1 := h x List.mem_cons_self
  have h2 := joinTail_len l m (fun y hy => h y (List.mem_cons_of_mem _ hy))
  rw [Lib.join_cons, List.length_append, List.length_cons, Nat.mul_add, Nat.mul_one]
  omega
theorem strings_Join_e (l : List ByteArray) (m : Nat) (hl : l.length ≤ 1000000) (hm : m ≤ 1000000) (h : ∀ x ∈ l, x.size ≤ m) : strings_Join.f l (⟨#[32]⟩ : ByteArray) = some ⟨(Lib.join (l.map (·.data.toList)) [32]).toArray⟩ := by
 have hj := join_len (l.map (·.data.toList)) m (fun x hx => by
  obtain ⟨y, hy, rfl⟩ := List.mem_map.1 hx
  have := h y hy
  simpa using this)
 rw [List.length_map] at hj
 have hb : (m + 1) * l.length ≤ 1000001 * 1000000 := Nat.mul_le_mul (by omega) hl
 unfold strings_Join.f
 rw [if_pos ⟨by omega, by show (Lib.join (l.map (·.data.toList)) [32]).length ≤ _; omega⟩]

/-! #### ivOk -/
/-- The least key of an interval with this lower bound. -/
def low (lo : ByteArray) : ByteArray := if lo.toList = [] then (⟨#[97]⟩ : ByteArray) else lo
def ivOk (lo hi : ByteArray) : Bool :=
 (decide (lo.toList = []) || keyOk (bs lo)) && (decide (hi.toList = []) || keyOk (bs hi)) && (decide (hi.toList = []) || Op.bytesLess (low lo).toList hi.toList)
def joinOk (a b c d : ByteArray) : Bool := ivOk a b && ivOk c d && !decide (b.toList = []) && decide (b.toList = c.toList)

/-! #### ivimpl -/
theorem impl_lowestKey_f (lo hi : ByteArray) : impl_lowestKey.f lo hi = some (low lo) := by
 unfold impl_lowestKey.f low
 split <;> rfl
theorem impl_IntervalValid_f (lo hi : ByteArray) : impl_IntervalValid.fL lo hi = some (ivOk lo hi) := by
 rw [impl_IntervalValid.fL_eq, impl_KeyValid_f, impl_KeyValid_f, impl_lowestKey_f]
 simp only [Option.bind_some]
 unfold ivOk
 by_cases h1 : lo.toList = []
 ·rw [if_pos h1, decide_eq_true h1]
  by_cases h2 : hi.toList = []
  ·rw [if_pos h2, decide_eq_true h2]; rfl
  ·rw [if_neg h2, decide_eq_false h2]
   cases keyOk (bs hi) <;> simp
 ·rw [if_neg h1, decide_eq_false h1]
  by_cases h2 : hi.toList = []
  ·rw [if_pos h2, decide_eq_true h2]
   cases keyOk (bs lo) <;> simp
  ·rw [if_neg h2, decide_eq_false h2]
   cases keyOk (bs lo) <;> cases keyOk (bs hi) <;> simp

/-! #### Interval -/
theorem impl_IntervalJoin_f (a b c d : ByteArray) : impl_IntervalJoin.fL a b c d = some (if joinOk a b c d = true then (a, d, true) else ((⟨#[]⟩ : ByteArray), (⟨#[]⟩ : ByteArray), false)) := by
 rw [impl_IntervalJoin.fL_eq, impl_IntervalValid_f, impl_IntervalValid_f]
 simp only [Option.bind_some]
 unfold joinOk
 cases ivOk a b with
 | false => simp
 | true =>
  cases ivOk c d with
  | false => simp
  | true =>
   by_cases h1 : b.toList = []
   ·rw [decide_eq_true h1]; simp [h1]
   ·rw [decide_eq_false h1]
    by_cases h2 : b.toList = c.toList
    ·rw [decide_eq_true h2]
     rw [if_pos rfl, if_pos rfl, if_neg h1, if_pos h2]; simp
    ·rw [decide_eq_false h2]
     rw [if_pos rfl, if_pos rfl, if_neg h1, if_neg h2]; simp

/-! #### Partition -/
/-- Each one begins where the one before it ends. -/
def chainFrom : S58 → List S58 → Bool
 | _, [] => true
 | p, y :: ys => joinOk p.f0 p.f1 y.f0 y.f1 && chainFrom y ys
def partOk (l : List S58) : Bool :=
 match l with
 | [] => false
 | v :: vs => decide (l.length ≤ 6) && ivOk v.f0 v.f1 && decide (v.f0.toList = []) && decide ((rd_T58 l ((l.length : Int) - 1)).f1.toList = []) && chainFrom v vs
theorem getD_iv {α : Type} {xs : List α} {d : α} {i : Int} {y : α} {ys : List α} (h0 : 0 ≤ i) (h : xs.drop i.toNat = y :: ys) : xs.getD i.toNat d = y ∧ i < xs.length ∧ xs.drop (i + 1).toNat = ys := by
 have h1 : i.toNat < xs.length := by
  by_cases e : i.toNat < xs.length
  ·exact e
  ·rw [List.drop_eq_nil_of_le (by omega)] at h; cases h
 rw [List.drop_eq_getElem_cons h1] at h
 injection h with ha hb
 refine ⟨?_, by omega, ?_⟩
 ·rw [List.getD_eq_getElem?_getD, List.getElem?_eq_getElem h1]; exact ha
 ·rw [show (i + 1).toNat = i.toNat + 1 by omega]; exact hb
theorem bne_nilB (l : List UInt8) : (l != []) = !decide (l = []) := by cases l <;> simp
theorem joinOk_right {a b c d : ByteArray} (h : ivOk c d = false) : joinOk a b c d = false := by
 unfold joinOk; rw [h]; simp
theorem impl_PartitionValid_l0 (xs : List S58) (hx : xs.length ≤ 6) : ∀ (ys : List S58) (i : Int), 1 ≤ i → i ≤ xs.length → xs.drop i.toNat = ys → impl_PartitionValid.l0L xs xs (xs.length : Int) i = some (chainFrom (rd_T58 xs (i - 1)) ys)
 | [], i, h0, h1, hd => by
  have := drop_nil (by omega) h1 hd
  rw [impl_PartitionValid.l0L_eq, if_neg (by omega)]; rfl
 | y :: ys, i, h0, h1, hd => by
  obtain ⟨hr0, hl, hd'⟩ := getD_iv (d := z58) (by omega) hd
  have hr : rd_T58 xs i = y := hr0
  have ih := impl_PartitionValid_l0 xs hx ys (i + 1) (by omega) (by omega) hd'
  rw [show i + 1 - 1 = i by omega, hr] at ih
  rw [impl_PartitionValid.l0L_eq, if_pos hl, if_pos (by omega), if_pos hl, hr, impl_IntervalValid_f, Option.bind_some, w64 (n := i - 1) (by omega) (by omega), w64 (n := i + 1) (by omega) (by omega), if_pos (show i > 0 by omega), if_pos (show 0 ≤ i - 1 by omega), if_pos (show i - 1 < (xs.length : Int) by omega), impl_IntervalJoin_f, Option.bind_some, ih]
  simp only [chainFrom]
  cases hv : ivOk y.f0 y.f1 with
  | false => rw [joinOk_right hv]; simp
  | true => cases joinOk (rd_T58 xs (i - 1)).f0 (rd_T58 xs (i - 1)).f1 y.f0 y.f1 <;> simp
theorem impl_PartitionValid_f (xs : List S58) : impl_PartitionValid.fL xs = some (partOk xs) := by
 have jt : impl_PartitionValid.j0L xs true = some false := by rw [impl_PartitionValid.j0L_eq, if_pos rfl]
 rw [impl_PartitionValid.fL_eq, jt]
 unfold partOk
 cases xs with
 | nil => rfl
 | cons v vs =>
  have hlen : ((v :: vs).length : Int) = (vs.length : Int) + 1 := by simp
  have hv : rd_T58 (v :: vs) 0 = v := rfl
  rw [if_neg (by omega)]
  by_cases h6 : ((v :: vs).length : Int) > 6
  ·rw [if_pos h6]
   dsimp only
   rw [decide_eq_false (by omega)]; simp
  ·rw [if_neg h6, if_pos (by omega), hv]
   dsimp only
   rw [decide_eq_true (p := (v :: vs).length ≤ 6) (by omega)]
   by_cases h1 : v.f0.toList = []
   ·rw [if_pos h1, decide_eq_true h1, w64 (by omega) (by omega), if_pos (by omega), if_pos (by omega), bne_nilB]
    by_cases h2 : (rd_T58 (v :: vs) (((v :: vs).length : Int) - 1)).f1.toList = []
    ·rw [decide_eq_true h2, Bool.not_true, impl_PartitionValid.j0L_eq, if_neg (by simp), impl_PartitionValid.l0L_eq, if_pos (by omega), if_pos (by omega), if_pos (by omega), hv, impl_IntervalValid_f, Option.bind_some, if_neg (show ¬ ((0 : Int) > 0) by omega), w64 (n := 0 + 1) (by omega) (by omega),
      impl_PartitionValid_l0 (v :: vs) (by omega) vs (0 + 1) (by omega) (by omega) (by simp)]
     rw [show (0 : Int) + 1 - 1 = 0 by omega, hv]
     cases ivOk v.f0 v.f1 <;> simp
    ·rw [decide_eq_false h2, Bool.not_false, jt]; simp
   ·rw [if_neg h1, decide_eq_false h1]; simp

/-! #### Plan -/
theorem impl_shardNumber_f (a : Int) : impl_shardNumber.f a = some (decide (0 ≤ a ∧ a ≤ 7)) := by
 unfold impl_shardNumber.f
 by_cases h : a ≥ 0
 ·rw [if_pos h]; congr 1; rw [decide_eq_decide]; omega
 ·rw [if_neg h]; congr 1; rw [eq_comm, decide_eq_false_iff_not]; omega
/-! #### Routes -/
/-- The numbers are those of shards, and differ from those before. -/
def numsFrom : List Int → List S60 → Bool
 | _, [] => true
 | pre, y :: ys => decide (0 ≤ y.f0 ∧ y.f0 ≤ 7) && !decide (y.f0 ∈ pre) && numsFrom (pre ++ [y.f0]) ys
def spans (l : List S60) : List S58 := l.map fun r => ⟨r.f1.f0, r.f1.f1⟩
def routesOk (l : List S60) : Bool := decide (l.length ≤ 6) && partOk (spans l) && numsFrom [] l
theorem impl_spansOf_l0 (xs : List S60) (hx : xs.length ≤ 1000000000000) : ∀ (ys : List S60) (i : Int) (out : List S58), 0 ≤ i → i ≤ xs.length → (out.length : Int) ≤ i → xs.drop i.toNat = ys → impl_spansOf.l0L out xs (xs.length : Int) i = some (out ++ spans ys)
 | [], i, out, h0, h1, hl, hd => by
  have := drop_nil h0 h1 hd
  rw [impl_spansOf.l0L_eq, if_neg (by omega)]; simp [spans]
 | y :: ys, i, out, h0, h1, ho, hd => by
  obtain ⟨hr0, hl, hd'⟩ := getD_iv (d := z60) h0 hd
  have hr : rd_T60 xs i = y := hr0
  rw [impl_spansOf.l0L_eq, if_pos hl, if_pos h0, if_pos hl, if_pos (by omega), hr, w64 (by omega) (by omega), impl_spansOf_l0 xs hx ys (i + 1) _ (by omega) (by omega) (by simp; omega) hd']
  simp [spans]
theorem impl_spansOf_f (xs : List S60) (hx : xs.length ≤ 1000000000000) : impl_spansOf.fL xs = some (spans xs) := by
 rw [impl_spansOf.fL_eq, impl_spansOf_l0 xs hx xs 0 [] (by omega) (by omega) (by simp) (by simp)]; simp
/-- Where a number is first, from an index on; -1 if nowhere. -/
def placeFrom (n : Int) : List S60 → Int → Int
 | [], _ => -1
 | y :: ys, i => if y.f0 = n then i else placeFrom n ys (i + 1)
theorem impl_routePlace_l0 (xs : List S60) (n : Int) (hx : xs.length ≤ 1000000000000) : ∀ (ys : List S60) (i : Int), 0 ≤ i → i ≤ xs.length → xs.drop i.toNat = ys → impl_routePlace.l0L n xs (xs.length : Int) i = some (placeFrom n ys i)
 | [], i, h0, h1, hd => by
  have := drop_nil h0 h1 hd
  rw [impl_routePlace.l0L_eq, if_neg (by omega)]; rfl
 | y :: ys, i, h0, h1, hd => by
  obtain ⟨hr0, hl, hd'⟩ := getD_iv (d := z60) h0 hd
  have hr : rd_T60 xs i = y := hr0
  rw [impl_routePlace.l0L_eq, if_pos hl, if_pos h0, if_pos hl, hr, w64 (by omega) (by omega)]
  simp only [placeFrom]
  by_cases e : y.f0 = n
  ·rw [if_pos e, if_pos e]
  ·rw [if_neg e, if_neg e]; exact impl_routePlace_l0 xs n hx ys (i + 1) (by omega) (by omega) hd'
theorem impl_routePlace_f (xs : List S60) (n : Int) (hx : xs.length ≤ 1000000000000) : impl_routePlace.fL xs n = some (placeFrom n xs 0) := by
 rw [impl_routePlace.fL_eq]; exact impl_routePlace_l0 xs n hx xs 0 (by omega) (by omega) (by simp)
theorem placeFrom_ge (n : Int) : ∀ (ys : List S60) (i : Int), 0 ≤ i → (placeFrom n ys i ≥ 0 ↔ n ∈ ys.map fun r => r.f0)
 | [], i, _ => by simp [placeFrom]
 | y :: ys, i, h => by
  have ih := placeFrom_ge n ys (i + 1) (by omega)
  simp only [placeFrom, List.map_cons, List.mem_cons]
  by_cases e : y.f0 = n
  ·rw [if_pos e]; simp [e, h]
  ·rw [if_neg e, ih]
   have e' : ¬ n = y.f0 := fun h => e h.symm
   simp [e']
theorem impl_numbersDiffer_l0 (xs : List S60) (hx : xs.length ≤ 1000000000000) : ∀ (ys : List S60) (i : Int), 0 ≤ i → i ≤ xs.length → xs.drop i.toNat = ys → impl_numbersDiffer.l0L xs xs (xs.length : Int) i = some (numsFrom ((xs.take i.toNat).map fun r => r.f0) ys)
 | [], i, h0, h1, hd => by
  have := drop_nil h0 h1 hd
  rw [impl_numbersDiffer.l0L_eq, if_neg (by omega)]; rfl
 | y :: ys, i, h0, h1, hd => by
  obtain ⟨hr0, hl, hd'⟩ := getD_iv (d := z60) h0 hd
  have hr : rd_T60 xs i = y := hr0
  have htk : xs.take (i.toNat + 1) = xs.take i.toNat ++ [y] := by
   have h2 : i.toNat < xs.length := by omega
   rw [List.take_succ_eq_append_getElem h2]
   have := hr0
   rw [List.getD_eq_getElem?_getD, List.getElem?_eq_getElem h2] at this
   simp at this
   rw [this]
  rw [impl_numbersDiffer.l0L_eq, if_pos hl, if_pos h0, if_pos hl, hr, impl_shardNumber_f, Option.bind_some, if_pos h1, impl_routePlace_f _ _ (by rw [List.length_take]; omega), Option.bind_some, w64 (by omega) (by omega),
   impl_numbersDiffer_l0 xs hx ys (i + 1) (by omega) (by omega) hd', show (i + 1).toNat = i.toNat + 1 by omega, htk]
  simp only [numsFrom, List.map_append, List.map_cons, List.map_nil]
  have hp := placeFrom_ge y.f0 (xs.take i.toNat) 0 (by omega)
  by_cases h2 : 0 ≤ y.f0 ∧ y.f0 ≤ 7
  ·rw [decide_eq_true h2, if_pos rfl]
   by_cases h3 : y.f0 ∈ (xs.take i.toNat).map fun r => r.f0
   ·rw [if_pos (hp.2 h3), decide_eq_true h3]; rfl
   ·rw [if_neg (fun e => h3 (hp.1 e)), decide_eq_false h3]; rfl
  ·rw [decide_eq_false h2, if_neg (by simp)]; rfl
theorem impl_numbersDiffer_f (xs : List S60) (hx : xs.length ≤ 1000000000000) : impl_numbersDiffer.fL xs = some (numsFrom [] xs) := by
 rw [impl_numbersDiffer.fL_eq, impl_numbersDiffer_l0 xs hx xs 0 (by omega) (by omega) (by simp)]; simp
theorem impl_RoutesValid_f (xs : List S60) : impl_RoutesValid.fL xs = some (routesOk xs) := by
 rw [impl_RoutesValid.fL_eq]
 unfold routesOk
 by_cases h : (xs.length : Int) ≤ 6
 ·rw [if_pos h, impl_spansOf_f xs (by omega), Option.bind_some, impl_PartitionValid_f, Option.bind_some, impl_numbersDiffer_f xs (by omega), Option.bind_some, decide_eq_true (by omega)]
  cases partOk (spans xs) <;> rfl
 ·rw [if_neg h, decide_eq_false (by omega)]; rfl

/-! #### spec_Interval -/
theorem less_a (hi : ByteArray) (h : keyOk (bs hi) = true) : (Op.bytesLess [] hi.toList && (hi.toList != [97])) = Op.bytesLess [97] hi.toList := by
 have hl : letters (bs hi) = true := keyOk_letters h
 have hn := (keyOk_len h).1
 have hb : bs hi = hi.toList.map fun b => (b.toNat : Int) := by rw [toList_data]; rfl
 rw [hb] at hl hn
 cases e : hi.toList with
 | nil => rw [e] at hn; simp at hn
 | cons b l =>
  rw [e] at hl
  obtain ⟨h1, _⟩ := letters_cons hl
  have h1 : 97 ≤ (b.toNat : Int) ∧ (b.toNat : Int) ≤ 122 := h1
  simp only [Op.bytesLess]
  by_cases hb97 : b = 97
  ·subst hb97
   cases l with
   | nil => simp [Op.bytesLess]
   | cons c l => simp [Op.bytesLess]
  ·have hlt : (97 : UInt8) < b := by
    rw [UInt8.lt_iff_toNat_lt]
    have : b.toNat ≠ (97 : UInt8).toNat := fun e => hb97 (UInt8.toNat_inj.1 e)
    have e97 : (97 : UInt8).toNat = 97 := rfl
    omega
   simp [hlt, hb97]
theorem spec_IntervalValid_f (lo hi : ByteArray) : spec_IntervalValid.fL lo hi = some (ivOk lo hi) := by
 rw [spec_IntervalValid.fL_eq, spec_KeyValid_f, spec_KeyValid_f]
 simp only [Option.bind_some]
 unfold ivOk low
 by_cases h1 : lo.toList = []
 ·rw [if_pos h1, if_pos h1, decide_eq_true h1]
  by_cases h2 : hi.toList = []
  ·rw [if_pos h2, decide_eq_true h2]; rfl
  ·rw [if_neg h2, decide_eq_false h2]
   cases hk : keyOk (bs hi) with
   | false => simp
   | true =>
    have e97 : (⟨#[97]⟩ : ByteArray).toList = [97] := by rw [toList_data]
    rw [h1, e97, ← less_a hi hk]
    cases Op.bytesLess [] hi.toList <;> simp
 ·rw [if_neg h1, if_neg h1, decide_eq_false h1]
  by_cases h2 : hi.toList = []
  ·rw [if_pos h2, decide_eq_true h2]
   cases keyOk (bs lo) <;> simp
  ·rw [if_neg h2, decide_eq_false h2]
   cases keyOk (bs lo) <;> cases keyOk (bs hi) <;> cases Op.bytesLess lo.toList hi.toList <;> simp

/-! #### spec_IntervalJoin -/
theorem spec_IntervalJoin_f (a b c d : ByteArray) : spec_IntervalJoin.fL a b c d = some (if joinOk a b c d = true then (a, d, true) else ((⟨#[]⟩ : ByteArray), (⟨#[]⟩ : ByteArray), false)) := by
 rw [spec_IntervalJoin.fL_eq, spec_IntervalValid_f, spec_IntervalValid_f]
 simp only [Option.bind_some]
 unfold joinOk
 cases ivOk a b with
 | false => simp
 | true =>
  cases ivOk c d with
  | false => simp
  | true =>
   by_cases h1 : b.toList = []
   ·rw [decide_eq_true h1]; simp [h1]
   ·rw [decide_eq_false h1]
    by_cases h2 : b.toList = c.toList
    ·rw [decide_eq_true h2]
     rw [if_pos rfl, if_pos rfl, if_neg h1, if_pos h2]; simp
    ·rw [decide_eq_false h2]
     rw [if_pos rfl, if_pos rfl, if_neg h1, if_neg h2]; simp

/-! #### spec_Partition -/
theorem spec_PartitionValid_l0 (xs : List S58) (hx : xs.length ≤ 6) : ∀ (ys : List S58) (i : Int), 1 ≤ i → i ≤ xs.length → xs.drop i.toNat = ys → spec_PartitionValid.l0L xs i = some (chainFrom (rd_T58 xs (i - 1)) ys)
 | [], i, h0, h1, hd => by
  have := drop_nil (by omega) h1 hd
  rw [spec_PartitionValid.l0L_eq, if_neg (by omega)]; rfl
 | y :: ys, i, h0, h1, hd => by
  obtain ⟨hr0, hl, hd'⟩ := getD_iv (d := z58) (by omega) hd
  have hr : rd_T58 xs i = y := hr0
  have ih := spec_PartitionValid_l0 xs hx ys (i + 1) (by omega) (by omega) hd'
  rw [show i + 1 - 1 = i by omega, hr] at ih
  rw [spec_PartitionValid.l0L_eq, if_pos hl, w64 (n := i - 1) (by omega) (by omega), w64 (n := i + 1) (by omega) (by omega), if_pos (by omega), if_pos (by omega), if_pos (by omega), hr, spec_IntervalJoin_f, Option.bind_some, ih]
  simp only [chainFrom]
  cases joinOk (rd_T58 xs (i - 1)).f0 (rd_T58 xs (i - 1)).f1 y.f0 y.f1 <;> simp
theorem spec_PartitionValid_f (xs : List S58) : spec_PartitionValid.fL xs = some (partOk xs) := by
 have jt : spec_PartitionValid.j0L xs true = some false := by rw [spec_PartitionValid.j0L_eq, if_pos rfl]
 rw [spec_PartitionValid.fL_eq, jt, spec_l1In_f, Option.bind_some]
 unfold partOk
 cases xs with
 | nil => rfl
 | cons v vs =>
  have hlen : ((v :: vs).length : Int) = (vs.length : Int) + 1 := by simp
  have hv : rd_T58 (v :: vs) 0 = v := rfl
  by_cases h6 : ((v :: vs).length : Int) > 6
  ·rw [if_neg (by simp only [decide_eq_true_eq]; omega)]
   dsimp only
   rw [decide_eq_false (by omega)]; simp
  ·rw [if_pos (by simp only [decide_eq_true_eq]; omega), if_pos (by omega), hv, spec_IntervalValid_f, Option.bind_some]
   dsimp only
   rw [decide_eq_true (p := (v :: vs).length ≤ 6) (by omega)]
   cases hi : ivOk v.f0 v.f1 with
   | false => simp
   | true =>
    by_cases h1 : v.f0.toList = []
    ·rw [if_pos rfl, if_pos h1, decide_eq_true h1, w64 (by omega) (by omega), if_pos (by omega), if_pos (by omega), bne_nilB]
     by_cases h2 : (rd_T58 (v :: vs) (((v :: vs).length : Int) - 1)).f1.toList = []
     ·rw [decide_eq_true h2, Bool.not_true, spec_PartitionValid.j0L_eq, if_neg (by simp), spec_PartitionValid_l0 (v :: vs) (by omega) vs 1 (by omega) (by omega) (by simp)]
      rw [show (1 : Int) - 1 = 0 by omega, hv]; simp
     ·rw [decide_eq_false h2, Bool.not_false, jt]; simp
    ·rw [if_pos rfl, if_neg h1, decide_eq_false h1]; simp

/-! #### spec_Routes -/
theorem spec_RoutesValid_l1 (xs : List S60) (out : List S58) (ho : out.length ≤ 100) (hx : xs.length ≤ 1000000000000) (k : Int) (y : S60) (h0 : 0 ≤ k) (hk : k < xs.length) (hy : rd_T60 xs k = y) : ∀ (zs : List S60) (j : Int), 0 ≤ j → j ≤ k → (xs.take k.toNat).drop j.toNat = zs → spec_RoutesValid.l1L xs out k j = if y.f0 ∈ zs.map (fun r => r.f0) then some false else spec_RoutesValid.l0L xs (out ++ [⟨y.f1.f0, y.f1.f1⟩]) (k + 1)
 | [], j, h1, h2, hd => by
  have hl : (xs.take k.toNat).length = k.toNat := by rw [List.length_take]; omega
  have := drop_nil h1 (by omega) hd
  rw [spec_RoutesValid.l1L_eq, if_neg (by omega), if_pos h0, if_pos hk, if_pos (by omega), hy, w64 (by omega) (by omega), if_neg (by simp)]
 | z :: zs, j, h1, h2, hd => by
  have hl : (xs.take k.toNat).length = k.toNat := by rw [List.length_take]; omega
  obtain ⟨hr, hlt, hd'⟩ := getD_iv (d := z60) h1 hd
  have hr' : rd_T60 xs j = z := by
   rw [← hr]; unfold rd_T60
   rw [List.getD_eq_getElem?_getD, List.getD_eq_getElem?_getD, List.getElem?_take, if_pos (by omega)]
  rw [spec_RoutesValid.l1L_eq, if_pos (by omega), if_pos h1, if_pos (by omega), if_pos h0, if_pos hk, hr', hy, w64 (by omega) (by omega)]
  by_cases e : z.f0 = y.f0
  ·rw [if_pos e, if_pos (by simp [e])]
  ·rw [if_neg e, spec_RoutesValid_l1 xs out ho hx k y h0 hk hy zs (j + 1) (by omega) (by omega) hd']
   have e' : ¬ y.f0 = z.f0 := fun h => e h.symm
   simp [e']
theorem spec_RoutesValid_l0 (xs : List S60) (hx : xs.length ≤ 1000000000000) : ∀ (ys : List S60) (i : Int), 0 ≤ i → i ≤ 6 → i ≤ xs.length → xs.drop i.toNat = ys → spec_RoutesValid.l0L xs (spans (xs.take i.toNat)) i = some (decide (xs.length ≤ 6) && partOk (spans xs) && numsFrom ((xs.take i.toNat).map fun r => r.f0) ys)
 | [], i, h0, h6, h1, hd => by
  have := drop_nil h0 h1 hd
  rw [spec_RoutesValid.l0L_eq, if_neg (by omega), List.take_of_length_le (by omega), spec_PartitionValid_f, Option.bind_some, decide_eq_true (by omega)]; simp [numsFrom]
 | y :: ys, i, h0, h6, h1, hd => by
  obtain ⟨hr0, hl, hd'⟩ := getD_iv (d := z60) h0 hd
  have hr : rd_T60 xs i = y := hr0
  have jt : spec_RoutesValid.j1L xs (spans (xs.take i.toNat)) i true = some false := by rw [spec_RoutesValid.j1L_eq, if_pos rfl]
  have htk : xs.take (i.toNat + 1) = xs.take i.toNat ++ [y] := by
   have h2 : i.toNat < xs.length := by omega
   rw [List.take_succ_eq_append_getElem h2]
   have := hr0
   rw [List.getD_eq_getElem?_getD, List.getElem?_eq_getElem h2] at this
   simp at this
   rw [this]
  rw [spec_RoutesValid.l0L_eq, if_pos hl]
  by_cases c : i ≥ 6
  ·rw [if_pos c, jt, decide_eq_false (by omega)]; rfl
  ·rw [if_neg c, if_pos h0, hr, spec_l1In_f, Option.bind_some]
   by_cases h2 : 0 ≤ y.f0 ∧ y.f0 ≤ 7
   ·have e2 : spans (xs.take i.toNat) ++ [⟨y.f1.f0, y.f1.f1⟩] = spans (xs.take (i.toNat + 1)) := by rw [htk]; simp [spans]
    have ih := spec_RoutesValid_l0 xs hx ys (i + 1) (by omega) (by omega) (by omega) hd'
    rw [show (i + 1).toNat = i.toNat + 1 by omega] at ih
    rw [decide_eq_true h2, Bool.not_true, spec_RoutesValid.j1L_eq, if_neg (by simp), spec_RoutesValid_l1 xs (spans (xs.take i.toNat)) (by simp [spans]; omega) hx i y h0 hl hr (xs.take i.toNat) 0 (by omega) h0 (by simp), e2, ih, htk]
    simp only [numsFrom, List.map_append, List.map_cons, List.map_nil]
    by_cases h3 : y.f0 ∈ (xs.take i.toNat).map fun r => r.f0
    ·rw [if_pos h3, decide_eq_true h3]; simp
    ·rw [if_neg h3, decide_eq_false h3, decide_eq_true h2]; simp
   ·rw [decide_eq_false h2, Bool.not_false, jt]
    simp only [numsFrom]
    rw [decide_eq_false h2]; simp
theorem spec_RoutesValid_f (xs : List S60) (hx : xs.length ≤ 1000000000000) : spec_RoutesValid.fL xs = some (routesOk xs) := by
 have h := spec_RoutesValid_l0 xs hx xs 0 (by omega) (by omega) (by omega) (by simp)
 rw [spec_RoutesValid.fL_eq]
 exact h

/-! #### partmem -/
theorem chain_mem : ∀ (vs : List S58) (v : S58), chainFrom v vs = true → ∀ w ∈ vs, ivOk w.f0 w.f1 = true
 | [], v, _, w, hw => by cases hw
 | x :: xs, v, h, w, hw => by
  simp only [chainFrom, joinOk, Bool.and_eq_true] at h
  rcases List.mem_cons.1 hw with rfl | hw
  ·exact h.1.1.1.2
  ·exact chain_mem xs x h.2 w hw
theorem partOk_mem {ps : List S58} (h : partOk ps = true) : ∀ w ∈ ps, ivOk w.f0 w.f1 = true := by
 cases ps with
 | nil => cases h
 | cons v vs =>
  simp only [partOk, Bool.and_eq_true, decide_eq_true_eq] at h
  intro w hw
  rcases List.mem_cons.1 hw with rfl | hw
  ·exact h.1.1.1.2
  ·exact chain_mem vs v h.2 w hw

/-! #### RoutesText -/
def rword (p : S60) : List UInt8 := Lib.itoa p.f0 ++ 58 :: (p.f1.f0.data.toList ++ 45 :: p.f1.f1.data.toList)
def rtext (l : List S60) : ByteArray := if routesOk l = true then ⟨(Lib.join (l.map rword) [32]).toArray⟩ else ⟨#[]⟩
theorem size_arr (l : List UInt8) : (⟨l.toArray⟩ : ByteArray).size = l.length := by simp [ByteArray.size]
theorem numsFrom_small : ∀ (l : List S60) (p : List Int), numsFrom p l = true → ∀ y ∈ l, 0 ≤ y.f0 ∧ y.f0 ≤ 7
 | [], _, _, y, hy => by cases hy
 | x :: l, p, h, y, hy => by
  simp only [numsFrom, Bool.and_eq_true, decide_eq_true_eq] at h
  cases hy with
  | head => exact h.1.1
  | tail _ hy => exact numsFrom_small l _ h.2 y hy
theorem ivOk_small {a b : ByteArray} (h : ivOk a b = true) : a.size ≤ 4 ∧ b.size ≤ 4 := by
 have key : ∀ c : ByteArray, (decide (c.toList = []) || keyOk (bs c)) = true → c.size ≤ 4 := by
  intro c hc
  rw [Bool.or_eq_true, decide_eq_true_eq, toList_nil] at hc
  rcases hc with hc | hc
  ·rw [← bs_length, hc]; simp
  ·unfold keyOk at hc
   rw [Bool.and_eq_true, decide_eq_true_eq, bs_length] at hc
   exact hc.1.2
 unfold ivOk at h
 rw [Bool.and_eq_true, Bool.and_eq_true] at h
 exact ⟨key a h.1.1, key b h.1.2⟩
theorem route_small {l : List S60} (h : routesOk l = true) : l.length ≤ 6 ∧ ∀ y ∈ l, (0 ≤ y.f0 ∧ y.f0 ≤ 7) ∧ y.f1.f0.size ≤ 4 ∧ y.f1.f1.size ≤ 4 := by
 unfold routesOk at h
 rw [Bool.and_eq_true, Bool.and_eq_true, decide_eq_true_eq] at h
 refine ⟨h.1.1, fun y hy => ⟨numsFrom_small l _ h.2 y hy, ?_⟩⟩
 exact ivOk_small (partOk_mem h.1.2 ⟨y.f1.f0, y.f1.f1⟩ (by unfold spans; exact List.mem_map.2 ⟨y, hy, rfl⟩))
theorem spec_RoutesText_l0 (xs : List S60) (hok : routesOk xs = true) : ∀ (ys : List S60) (i : Int) (out : ByteArray), 0 ≤ i → i ≤ xs.length → (out.size : Int) ≤ 2000 * i → xs.drop i.toNat = ys →
  spec_RoutesText.l0L xs out i = some ⟨(out.data.toList ++ (if i = 0 then Lib.join (ys.map rword) [32] else Lib.joinTail [32] (ys.map rword))).toArray⟩
 | [], i, out, h0, h1, ho, hd => by
  have := drop_nil h0 h1 hd
  rw [spec_RoutesText.l0L_eq, if_neg (by omega), spec_RoutesText.j1L_eq, if_neg Bool.false_ne_true]
  have : (if i = 0 then Lib.join (([] : List S60).map rword) [32] else Lib.joinTail [32] (([] : List S60).map rword)) = [] := by split <;> rfl
  rw [this, List.append_nil]
 | y :: ys, i, out, h0, h1, ho, hd => by
  obtain ⟨h48, hsm⟩ := route_small hok
  obtain ⟨hr0, hl, hd'⟩ := getD_iv (d := z60) h0 hd
  have hr : rd_T60 xs i = y := hr0
  obtain ⟨hn, hA, hB⟩ := hsm y (List.mem_of_mem_drop (i := i.toNat) (by rw [hd]; exact List.mem_cons_self))
  have hi := itoa_len hn.1 (show y.f0 ≤ 999 by omega)
  have ih := fun (o : ByteArray) (h : (o.size : Int) ≤ 2000 * (i + 1)) => spec_RoutesText_l0 xs hok ys (i + 1) o (by omega) (by omega) h hd'
  have z : ∀ (a b : ByteArray), (a ++ b).size = a.size + b.size := fun a b => ByteArray.size_append
  have s32 : (⟨#[32]⟩ : ByteArray).size = 1 := rfl
  have s58 : (⟨#[58]⟩ : ByteArray).size = 1 := rfl
  have s45 : (⟨#[45]⟩ : ByteArray).size = 1 := rfl
  have sI := size_arr (Lib.itoa y.f0)
  rw [spec_RoutesText.l0L_eq, if_pos hl, spec_RoutesValid_f xs (by omega), Option.bind_some, hok, spec_RoutesText.j1L_eq, if_pos rfl, hr, spec_l7Text_f y.f0 hn.1 (by omega), w64 (by omega) (by omega)]
  by_cases c : i > 0
  ·rw [if_pos c, if_pos (by omega), if_pos h0, if_pos hl, Option.bind_some, if_pos (by simp only [z, s32, sI]; omega), if_pos (by simp only [z, s32, sI]; omega), if_pos (by simp only [z, s32, s58, sI]; omega), if_pos (by simp only [z, s32, s58, sI]; omega), if_pos (by simp only [z, s32, s58, s45, sI]; omega), ih _ (by simp only [z, s32, s58, s45, sI]; omega), if_neg (by omega), if_neg (by omega)]
   simp [Lib.joinTail, rword]
  ·rw [if_neg c, if_pos h0, if_pos hl, Option.bind_some, if_pos (by simp only [z, sI]; omega), if_pos (by simp only [z, sI]; omega), if_pos (by simp only [z, s58, sI]; omega), if_pos (by simp only [z, s58, sI]; omega), if_pos (by simp only [z, s58, s45, sI]; omega), ih _ (by simp only [z, s58, s45, sI]; omega), if_neg (by omega), if_pos (by omega), List.map_cons, Lib.join_cons]
   simp [rword]
theorem spec_RoutesText_f (xs : List S60) (hx : xs.length ≤ 1000000000000) : spec_RoutesText.fL xs = some (rtext xs) := by
 rw [spec_RoutesText.fL_eq]
 unfold rtext
 by_cases h : routesOk xs = true
 ·rw [if_pos h, spec_RoutesText_l0 xs h xs 0 _ (by omega) (by omega) (by show ((0 : Nat) : Int) ≤ _; omega) (by simp), if_pos rfl]; rfl
 ·rw [if_neg h, spec_RoutesText.l0L_eq]
  by_cases c : (0 : Int) < xs.length
  ·rw [if_pos c, spec_RoutesValid_f xs hx, Option.bind_some, spec_RoutesText.j1L_eq, if_neg h]
  ·rw [if_neg c, spec_RoutesText.j1L_eq, if_neg Bool.false_ne_true]
theorem impl_RoutesText_l0 (xs : List S60) (hok : routesOk xs = true) : ∀ (ys : List S60) (i : Int) (a : List ByteArray), 0 ≤ i → i ≤ xs.length → (a.length : Int) ≤ i → (∀ x ∈ a, x.size ≤ 2000) → xs.drop i.toNat = ys →
  impl_RoutesText.l0L a xs (xs.length : Int) i = some ⟨(Lib.join (a.map (·.data.toList) ++ ys.map rword) [32]).toArray⟩
 | [], i, a, h0, h1, ha, hs, hd => by
  have := drop_nil h0 h1 hd
  obtain ⟨h48, hsm⟩ := route_small hok
  rw [impl_RoutesText.l0L_eq, if_neg (by omega), strings_Join_e a 2000 (by omega) (by omega) hs, Option.bind_some, List.map_nil, List.append_nil]
 | y :: ys, i, a, h0, h1, ha, hs, hd => by
  obtain ⟨h48, hsm⟩ := route_small hok
  obtain ⟨hr0, hl, hd'⟩ := getD_iv (d := z60) h0 hd
  have hr : rd_T60 xs i = y := hr0
  obtain ⟨hn, hA, hB⟩ := hsm y (List.mem_of_mem_drop (i := i.toNat) (by rw [hd]; exact List.mem_cons_self))
  have hi := itoa_len hn.1 (show y.f0 ≤ 999 by omega)
  have z : ∀ (a b : ByteArray), (a ++ b).size = a.size + b.size := fun a b => ByteArray.size_append
  have s58 : (⟨#[58]⟩ : ByteArray).size = 1 := rfl
  have s45 : (⟨#[45]⟩ : ByteArray).size = 1 := rfl
  have sI := size_arr (Lib.itoa y.f0)
  have ih := fun (q : ByteArray) (hq : q.size ≤ 2000) => impl_RoutesText_l0 xs hok ys (i + 1) (a ++ [q]) (by omega) (by omega) (by simp; omega) (fun x hx => by
   rcases List.mem_append.1 hx with hx | hx
   ·exact hs x hx
   ·rw [List.mem_singleton.1 hx]; exact hq) hd'
  rw [impl_RoutesText.l0L_eq, if_pos hl, if_pos h0, if_pos hl, hr, strconv_Itoa_e hn.1 (by omega), Option.bind_some, if_pos (by simp only [sI]; omega), if_pos (by simp only [z, s58, sI]; omega), if_pos (by simp only [z, s58, sI]; omega), if_pos (by simp only [z, s58, s45, sI]; omega), if_pos (by omega), w64 (by omega) (by omega), ih _ (by simp only [z, s58, s45, sI]; omega)]
  simp [rword]
theorem impl_RoutesText_f (xs : List S60) : impl_RoutesText.fL xs = some (rtext xs) := by
 rw [impl_RoutesText.fL_eq, impl_RoutesValid_f, Option.bind_some]
 unfold rtext
 by_cases h : routesOk xs = true
 ·rw [if_pos h, if_pos h, impl_RoutesText_l0 xs h xs 0 [] (by omega) (by omega) (by simp) (by simp) (by simp)]; rfl
 ·rw [if_neg h, if_neg h]

/-! #### ReadRoutes -/
theorem iv_letters {a b : ByteArray} (h : ivOk a b = true) : (∀ x ∈ a.data.toList, 97 ≤ x.toNat ∧ x.toNat ≤ 122) ∧ (∀ x ∈ b.data.toList, 97 ≤ x.toNat ∧ x.toNat ≤ 122) := by
 have key : ∀ c : ByteArray, (decide (c.toList = []) || keyOk (bs c)) = true → ∀ x ∈ c.data.toList, 97 ≤ x.toNat ∧ x.toNat ≤ 122 := by
  intro c hc
  rw [Bool.or_eq_true, decide_eq_true_eq, toList_data] at hc
  rcases hc with hc | hc
  ·rw [hc]; intro x hx; cases hx
  ·unfold keyOk at hc
   rw [Bool.and_eq_true] at hc
   exact letters_mem hc.2
 unfold ivOk at h
 rw [Bool.and_eq_true, Bool.and_eq_true] at h
 exact ⟨key a h.1.1, key b h.1.2⟩
theorem route_word {l : List S60} (h : routesOk l = true) : ∀ y ∈ l, (0 ≤ y.f0 ∧ y.f0 ≤ 7) ∧ (∀ x ∈ y.f1.f0.data.toList, 97 ≤ x.toNat ∧ x.toNat ≤ 122) ∧ (∀ x ∈ y.f1.f1.data.toList, 97 ≤ x.toNat ∧ x.toNat ≤ 122) := by
 intro y hy
 have hs := ((route_small h).2 y hy).1
 unfold routesOk at h
 rw [Bool.and_eq_true, Bool.and_eq_true, decide_eq_true_eq] at h
 exact ⟨hs, iv_letters (partOk_mem h.1.2 ⟨y.f1.f0, y.f1.f1⟩ (by unfold spans; exact List.mem_map.2 ⟨y, hy, rfl⟩))⟩
theorem rword_no32 {l : List S60} (h : routesOk l = true) : ∀ x ∈ l.map rword, (32 : UInt8) ∉ x := by
 intro x hx h32
 obtain ⟨y, hy, rfl⟩ := List.mem_map.1 hx
 obtain ⟨hn, ha, hb⟩ := route_word h y hy
 unfold rword at h32
 rcases List.mem_append.1 h32 with h3 | h3
 ·have := (digits_itoa hn.1 _ h3).1
  revert this; decide
 ·rcases List.mem_cons.1 h3 with h3 | h3
  ·revert h3; decide
  ·rcases List.mem_append.1 h3 with h3 | h3
   ·have := (ha _ h3).1
    revert this; decide
   ·rcases List.mem_cons.1 h3 with h3 | h3
    ·revert h3; decide
    ·have := (hb _ h3).1
     revert this; decide
theorem rword_cut {l : List S60} (h : routesOk l = true) (y : S60) (hy : y ∈ l) :
  cut1 58 (rword y) = (Lib.itoa y.f0, y.f1.f0.data.toList ++ 45 :: y.f1.f1.data.toList, true) ∧ cut1 45 (y.f1.f0.data.toList ++ 45 :: y.f1.f1.data.toList) = (y.f1.f0.data.toList, y.f1.f1.data.toList, true) := by
 obtain ⟨hn, ha, hb⟩ := route_word h y hy
 exact ⟨cut1_app 58 _ _ (fun hm => by have := (digits_itoa hn.1 _ hm).2; revert this; decide), cut1_app 45 _ _ (fun hm => by have := (ha _ hm).1; revert this; decide)⟩
/-- The route of a word, as a reader of numbers has it. -/
def rOf (num : ByteArray → Int) (w : List UInt8) : S60 := ⟨num (toBA (cut1 58 w).1), ⟨toBA (cut1 45 (cut1 58 w).2.1).1, toBA (cut1 45 (cut1 58 w).2.1).2.1⟩⟩
theorem round_trip_r {l : List S60} {s : ByteArray} (h : routesOk l = true) (hs : rtext l = s) (num : ByteArray → Int) (hn : ∀ v : Int, 0 ≤ v → v ≤ 999 → num (toBA (Lib.itoa v)) = v) :
  wsp 32 s.data.toList = l.map rword ∧ (wsp 32 s.data.toList).map (rOf num) = l := by
 have h0 : l ≠ [] := fun q => by rw [q] at h; revert h; decide
 have e : wsp 32 s.data.toList = l.map rword := by
  rw [← hs]
  unfold rtext
  rw [if_pos h]
  exact wsp_join 32 _ (by simpa using h0) (rword_no32 h)
 refine ⟨e, ?_⟩
 rw [e, List.map_map]
 have : ∀ y ∈ l, (rOf num ∘ rword) y = y := fun y hy => by
  obtain ⟨h1, _⟩ := route_word h y hy
  obtain ⟨c1, c2⟩ := rword_cut h y hy
  show rOf num (rword y) = y
  unfold rOf
  rw [c1]
  dsimp only
  rw [c2, hn _ h1.1 (by omega), toBA_data, toBA_data]
 rw [List.map_congr_left this, List.map_id']
/-- What is read: the one list whose text it is. -/
def readR (s : ByteArray) : List S60 × Bool :=
 if (wsp 32 s.data.toList).length ≤ 6 ∧ routesOk ((wsp 32 s.data.toList).map (rOf numI)) = true ∧ rtext ((wsp 32 s.data.toList).map (rOf numI)) = s then ((wsp 32 s.data.toList).map (rOf numI), true) else ([], false)
theorem cut1_len1 (c : UInt8) : ∀ l : List UInt8, (cut1 c l).1.length ≤ l.length
 | [] => by simp [cut1]
 | b :: r => by
  have := cut1_len1 c r
  show (if b = c then ([], r, true) else (b :: (cut1 c r).1, (cut1 c r).2.1, (cut1 c r).2.2)).1.length ≤ _
  split
  ·simp
  ·simp; omega
theorem impl_ReadRoutes_l0 (s : ByteArray) (ws : List ByteArray) (hw : ∀ w ∈ ws, w.size ≤ 2000000) (hl : ws.length ≤ 48) : ∀ (ys : List ByteArray) (i : Int) (out : List S60), 0 ≤ i → i ≤ ws.length → (out.length : Int) ≤ i → ws.drop i.toNat = ys →
  impl_ReadRoutes.l0L s out ws (ws.length : Int) i = (let L := out ++ ys.map fun w => rOf numI w.data.toList; if routesOk L = true then (if (rtext L).toList = s.toList then some (L, true) else some ([], false)) else some ([], false))
 | [], i, out, h0, h1, ho, hd => by
  have := drop_nil h0 h1 hd
  rw [impl_ReadRoutes.l0L_eq, if_neg (by omega), impl_RoutesValid_f, Option.bind_some]
  simp only [List.map_nil, List.append_nil]
  by_cases h : routesOk out = true
  ·rw [if_pos h, if_pos h, impl_RoutesText_f, Option.bind_some]
  ·rw [if_neg h, if_neg h]
 | y :: ys, i, out, h0, h1, ho, hd => by
  obtain ⟨hr, hlt, hd'⟩ := strAt_drop h0 hd
  have hy := hw y (List.mem_of_mem_drop (i := i.toNat) (by rw [hd]; exact List.mem_cons_self))
  have hc := cut1_len1 58 y.data.toList
  have hc2 := cut1_len 58 y.data.toList
  rw [size_data] at hc hc2
  have hn : impl_numberOf.f (toBA (cut1 58 y.data.toList).1) = some (numI (toBA (cut1 58 y.data.toList).1)) := by
   unfold impl_numberOf.f
   rw [if_pos (by rw [size_toBA]; omega)]; rfl
  have h2 : strings_Cut.f (toBA (cut1 58 y.data.toList).2.1) (⟨#[45]⟩ : ByteArray) = _ := strings_Cut_e (toBA (cut1 58 y.data.toList).2.1) 45 (by rw [size_toBA]; omega)
  rw [impl_ReadRoutes.l0L_eq, if_pos hlt, if_pos h0, if_pos hlt, hr, strings_Cut_e y 58 hy, Option.bind_some]
  dsimp only
  rw [h2, Option.bind_some]
  dsimp only
  rw [hn, Option.bind_some, if_pos (by omega), w64 (by omega) (by omega), impl_ReadRoutes_l0 s ws hw hl ys (i + 1) _ (by omega) (by omega) (by simp; omega) hd']
  simp only [List.map_cons, List.append_assoc, List.singleton_append]
  rfl
theorem impl_ReadRoutes_f (s : ByteArray) (hs : s.size ≤ 2000000) : impl_ReadRoutes.fL s = some (readR s) := by
 rw [impl_ReadRoutes.fL_eq, strings_Split_e s 32 hs, Option.bind_some, List.length_map]
 unfold readR
 by_cases h48 : (wsp 32 s.data.toList).length ≤ 6
 ·have hw : ∀ w ∈ (wsp 32 s.data.toList).map toBA, w.size ≤ 2000000 := fun w hw => by
   obtain ⟨x, hx, rfl⟩ := List.mem_map.1 hw
   have := (wsp_sizes 32 s.data.toList).1 x hx
   rw [size_data] at this
   rw [size_toBA]; omega
  have e := impl_ReadRoutes_l0 s ((wsp 32 s.data.toList).map toBA) hw (by rw [List.length_map]; omega) _ 0 [] (by omega) (by omega) (by simp) rfl
  have e2 : (((wsp 32 s.data.toList).map toBA).drop (0 : Int).toNat).map (fun w => rOf numI w.data.toList) = (wsp 32 s.data.toList).map (rOf numI) := by
   show ((wsp 32 s.data.toList).map toBA).map _ = _
   rw [List.map_map]; rfl
  rw [e2, List.nil_append, List.length_map] at e
  rw [if_neg (by omega), e]
  dsimp only
  by_cases c1 : routesOk ((wsp 32 s.data.toList).map (rOf numI)) = true
  ·rw [if_pos c1]
   by_cases c2 : rtext ((wsp 32 s.data.toList).map (rOf numI)) = s
   ·rw [if_pos (ba_list.2 c2), if_pos ⟨h48, c1, c2⟩]
   ·rw [if_neg (fun q => c2 (ba_list.1 q)), if_neg (fun q => c2 q.2.2)]
  ·rw [if_neg c1, if_neg (fun q => c1 q.2.1)]
 ·rw [if_pos (by omega), if_neg (fun q => h48 q.1)]
theorem spec_ReadRoutes_l0 (s : ByteArray) (ws : List ByteArray) (hw : ∀ w ∈ ws, w.size ≤ 2000000) (hl : ws.length ≤ 3000000) : ∀ (ys : List ByteArray) (i : Int) (out : List S60), 0 ≤ i → i ≤ ws.length → i ≤ 7 → (out.length : Int) ≤ i → ws.drop i.toNat = ys →
  spec_ReadRoutes.l0L s out ws i = (let L := out ++ (ys.take (7 - i.toNat)).map fun w => rOf numS w.data.toList; if s.toList = [] then some ([], false) else if (rtext L).toList = s.toList then some (L, true) else some ([], false))
 | [], i, out, h0, h1, h49, ho, hd => by
  have := drop_nil h0 h1 hd
  rw [spec_ReadRoutes.l0L_eq, if_neg (by omega), spec_ReadRoutes.j1L_eq, if_neg Bool.false_ne_true]
  simp only [List.take_nil, List.map_nil, List.append_nil]
  by_cases h : s.toList = []
  ·rw [if_pos h, if_pos h]
  ·rw [if_neg h, if_neg h, spec_RoutesText_f _ (by omega), Option.bind_some]
 | y :: ys, i, out, h0, h1, h49, ho, hd => by
  obtain ⟨hr, hlt, hd'⟩ := strAt_drop h0 hd
  have hy := hw y (List.mem_of_mem_drop (i := i.toNat) (by rw [hd]; exact List.mem_cons_self))
  rw [spec_ReadRoutes.l0L_eq, if_pos hlt, spec_ReadRoutes.j1L_eq]
  by_cases c : i ≤ 6
  ·have hc2 := cut1_len 58 y.data.toList
   rw [size_data] at hc2
   obtain ⟨n, hn⟩ := spec_l7Number_all (toBA (cut1 58 y.data.toList).1)
   have hnum : numS (toBA (cut1 58 y.data.toList).1) = n := by unfold numS; rw [hn]; rfl
   have hsp : spec_l41Split.fL y 58 = _ := spec_l41Split_f y hy 58
   have hsp2 : spec_l41Split.fL (toBA (cut1 58 y.data.toList).2.1) 45 = _ := spec_l41Split_f (toBA (cut1 58 y.data.toList).2.1) (by rw [size_toBA]; omega) 45
   rw [if_pos (decide_eq_true c), if_pos h0, if_pos hlt, hr, hsp, Option.bind_some]
   dsimp only
   rw [hsp2, Option.bind_some]
   dsimp only
   rw [hn, Option.bind_some, if_pos (by omega), w64 (by omega) (by omega), spec_ReadRoutes_l0 s ws hw hl ys (i + 1) _ (by omega) (by omega) (by omega) (by simp; omega) hd']
   have e : 7 - i.toNat = (7 - (i + 1).toNat) + 1 := by omega
   rw [e, List.take_succ_cons]
   simp only [List.map_cons, List.append_assoc, List.singleton_append]
   have ep : rOf numS y.data.toList = ⟨n, ⟨toBA (cut1 45 (cut1 58 y.data.toList).2.1).1, toBA (cut1 45 (cut1 58 y.data.toList).2.1).2.1⟩⟩ := by unfold rOf; rw [hnum]
   rw [ep]; rfl
  ·have e : 7 - i.toNat = 0 := by omega
   rw [if_neg (by rw [decide_eq_false c]; simp), e]
   simp only [List.take_zero, List.map_nil, List.append_nil]
   by_cases h : s.toList = []
   ·rw [if_pos h, if_pos h]
   ·rw [if_neg h, if_neg h, spec_RoutesText_f _ (by omega), Option.bind_some]
theorem rtext_ne {l : List S60} (h : routesOk l = true) : ¬ (rtext l).toList = [] := by
 cases l with
 | nil => revert h; decide
 | cons y l =>
  obtain ⟨h1, _⟩ := route_word h y List.mem_cons_self
  obtain ⟨n, hn⟩ := Int.eq_ofNat_of_zero_le h1.1
  have hi : Lib.itoa y.f0 ≠ [] := by rw [hn, itoa_nat]; exact (dec_says n).2.2
  rw [toList_data]
  unfold rtext
  rw [if_pos h]
  show ¬ Lib.join ((y :: l).map rword) [32] = []
  rw [List.map_cons, Lib.join_cons]
  unfold rword
  intro q
  have := (List.append_eq_nil_iff.1 (List.append_eq_nil_iff.1 q).1).1
  exact hi this
theorem spec_ReadRoutes_f (s : ByteArray) (hs : s.size ≤ 2000000) : spec_ReadRoutes.fL s = some (readR s) := by
 have hln := (wsp_sizes 32 s.data.toList).2
 rw [size_data] at hln
 rw [spec_ReadRoutes.fL_eq, spec_l7Words_f s hs, Option.bind_some]
 have hw : ∀ w ∈ (wsp 32 s.data.toList).map toBA, w.size ≤ 2000000 := fun w hw => by
  obtain ⟨x, hx, rfl⟩ := List.mem_map.1 hw
  have := (wsp_sizes 32 s.data.toList).1 x hx
  rw [size_data] at this
  rw [size_toBA]; omega
 have e := spec_ReadRoutes_l0 s ((wsp 32 s.data.toList).map toBA) hw (by rw [List.length_map]; omega) _ 0 [] (by omega) (by omega) (by omega) (by simp) rfl
 have e2 : ((((wsp 32 s.data.toList).map toBA).drop (0 : Int).toNat).take (7 - (0 : Int).toNat)).map (fun w => rOf numS w.data.toList) = ((wsp 32 s.data.toList).take 7).map (rOf numS) := by
  show (((wsp 32 s.data.toList).map toBA).take 7).map _ = _
  rw [← List.map_take, List.map_map]; rfl
 rw [e2, List.nil_append] at e
 rw [e]
 dsimp only
 unfold readR
 by_cases h : s.toList = []
 ·rw [if_pos h, if_neg]
  rintro ⟨b1, b2, b3⟩
  exact rtext_ne b2 (by rw [b3]; exact h)
 ·have valid : ∀ l : List S60, rtext l = s → routesOk l = true := fun l hl => by
   cases hp : routesOk l with
   | true => rfl
   | false =>
    exfalso; apply h
    rw [← hl]; unfold rtext
    rw [if_neg (by rw [hp]; simp), toList_data]
  rw [if_neg h]
  by_cases c : rtext (((wsp 32 s.data.toList).take 7).map (rOf numS)) = s
  ·have a1 := valid _ c
   obtain ⟨b1, _⟩ := round_trip_r a1 c numS numS_itoa
   obtain ⟨_, b2⟩ := round_trip_r a1 c numI numI_itoa
   have b3 : (wsp 32 s.data.toList).length ≤ 6 := by rw [b1, List.length_map]; exact (route_small a1).1
   rw [if_pos (ba_list.2 c), b2, if_pos ⟨b3, a1, c⟩]
  ·rw [if_neg (fun q => c (ba_list.1 q)), if_neg]
   rintro ⟨b1, b2, b3⟩
   obtain ⟨_, d⟩ := round_trip_r b2 b3 numS numS_itoa
   rw [List.take_of_length_le (by omega), d] at c
   exact c b3
theorem readR_length (s : ByteArray) : (readR s).1.length ≤ 6 := by
 unfold readR
 split
 ·next h => simpa using h.1
 ·simp

/-! #### intS -/
theorem set_at {α : Type} {xs : List α} {i : Nat} {y z : α} {ys : List α} (h : xs.drop i = y :: ys) : (xs.set i z).take (i + 1) = xs.take i ++ [z] ∧ (xs.set i z).drop (i + 1) = ys ∧ (xs.set i z).length = xs.length := by
 have h1 : i < xs.length := by
  by_cases e : i < xs.length
  ·exact e
  ·rw [List.drop_eq_nil_of_le (by omega)] at h; cases h
 rw [List.drop_eq_getElem_cons h1] at h
 injection h with ha hb
 refine ⟨?_, ?_, by simp⟩
 ·rw [List.take_succ_eq_append_getElem (by simpa using h1), List.take_set_of_le (by omega)]; simp
 ·rw [List.drop_set_of_lt (by omega)]; exact hb
/-! #### loops -/
theorem getD_drop {α : Type} {xs : List α} {d : α} {i : Int} {y : α} {ys : List α} (h0 : 0 ≤ i) (h : xs.drop i.toNat = y :: ys) : xs.getD i.toNat d = y ∧ i < xs.length ∧ xs.drop (i + 1).toNat = ys := by
 have h1 : i.toNat < xs.length := by
  by_cases e : i.toNat < xs.length
  ·exact e
  ·rw [List.drop_eq_nil_of_le (by omega)] at h; cases h
 rw [List.drop_eq_getElem_cons h1] at h
 injection h with ha hb
 refine ⟨?_, by omega, ?_⟩
 ·rw [List.getD_eq_getElem?_getD, List.getElem?_eq_getElem h1]; exact ha
 ·rw [show (i + 1).toNat = i.toNat + 1 by omega]; exact hb
/-- Marks: an element for each number, c numbers an element. -/
def marks {α : Type} (el : Int → α) (c : Int) : Nat → Int → List α
 | 0, _ => []
 | n + 1, k => el k :: marks el c n (k + c)
theorem marks_length {α : Type} (el : Int → α) (c : Int) : ∀ (n : Nat) (k : Int), (marks el c n k).length = n
 | 0, _ => rfl
 | n + 1, k => by simp [marks, marks_length el c n]
theorem mark_loop {α : Type} (el : Int → α) (c : Int) (hc : 0 ≤ c) (hc2 : c ≤ 1000) (n : Nat) (hn : n ≤ 1000000000) (L : List α → Int → Int → Option (Int × List α))
  (hL : ∀ (zs : List α) (k i : Int), 0 ≤ i → i ≤ n → zs.length = n → 0 ≤ k → k ≤ 100000000000 + 1000 * n → L zs k i = if i < (n : Int) then L (zs.set i.toNat (el k)) (k + c) (i + 1) else some (k, zs)) :
  ∀ (ys zs : List α) (k i : Int), 0 ≤ i → i ≤ n → zs.length = n → zs.drop i.toNat = ys → 0 ≤ k → k ≤ 100000000000 + 1000 * i → L zs k i = some (k + c * ys.length, zs.take i.toNat ++ marks el c ys.length k)
 | [], zs, k, i, h0, h1, hl, hd, hk, hk2 => by
  have := drop_nil h0 (by omega) hd
  rw [hL zs k i h0 h1 hl hk (by omega), if_neg (by omega), List.take_of_length_le (by omega)]; simp [marks]
 | y :: ys, zs, k, i, h0, h1, hl, hd, hk, hk2 => by
  obtain ⟨hr, hlt, hd'⟩ := getD_drop (d := y) h0 hd
  obtain ⟨s1, s2, s3⟩ := set_at (z := el k) hd
  rw [hL zs k i h0 h1 hl hk (by omega), if_pos (by omega),
   mark_loop el c hc hc2 n hn L hL ys _ (k + c) (i + 1) (by omega) (by omega) (by omega) (by rw [show (i + 1).toNat = i.toNat + 1 by omega]; exact s2) (by omega) (by omega),
   show (i + 1).toNat = i.toNat + 1 by omega, s1]
  simp only [List.length_cons, marks, List.append_assoc, List.singleton_append]
  congr 2
  rw [show ((ys.length + 1 : Nat) : Int) = (ys.length : Int) + 1 by omega, Int.mul_add]
  omega
theorem mark_loop0 {α : Type} (el : Int → α) (c : Int) (hc : 0 ≤ c) (hc2 : c ≤ 1000) (zs : List α) (hn : zs.length ≤ 1000000000) (k : Int) (hk : 0 ≤ k) (hk2 : k ≤ 100000000000) (L : List α → Int → Int → Option (Int × List α))
  (hL : ∀ (ws : List α) (k i : Int), 0 ≤ i → i ≤ zs.length → ws.length = zs.length → 0 ≤ k → k ≤ 100000000000 + 1000 * zs.length → L ws k i = if i < (zs.length : Int) then L (ws.set i.toNat (el k)) (k + c) (i + 1) else some (k, ws)) :
  L zs k 0 = some (k + c * zs.length, marks el c zs.length k) := by
 have := mark_loop el c hc hc2 zs.length hn L hL zs zs k 0 (by omega) (by omega) rfl (by simp) hk (by omega)
 simpa using this
theorem held_loop {α : Type} (el : Int → α) (d : α) (c : Int) (hc : 0 ≤ c) (hc2 : c ≤ 1000) (zs : List α) (hn : zs.length ≤ 1000000000) (L : Int → Int → Option Int)
  (hL : ∀ k i : Int, 0 ≤ i → i ≤ zs.length → 0 ≤ k → k ≤ 100000000000 + 1000 * zs.length → (i < zs.length → zs.getD i.toNat d = el k) → L k i = if i < (zs.length : Int) then L (k + c) (i + 1) else some k) :
  ∀ (n : Nat) (k i : Int), 0 ≤ i → i ≤ zs.length → zs.drop i.toNat = marks el c n k → 0 ≤ k → k ≤ 100000000000 + 1000 * i → L k i = some (k + c * n)
 | 0, k, i, h0, h1, hd, hk, hk2 => by
  have := drop_nil h0 h1 hd
  rw [hL k i h0 h1 hk (by omega) (fun h => by omega), if_neg (by omega)]; simp
 | n + 1, k, i, h0, h1, hd, hk, hk2 => by
  obtain ⟨hr, hlt, hd'⟩ := getD_drop (d := d) h0 hd
  rw [hL k i h0 h1 hk (by omega) (fun _ => hr), if_pos hlt, held_loop el d c hc hc2 zs hn L hL n (k + c) (i + 1) (by omega) (by omega) hd' (by omega) (by omega)]
  congr 1
  rw [show ((n + 1 : Nat) : Int) = (n : Int) + 1 by omega, Int.mul_add]
  omega
theorem held_loop0 {α : Type} (el : Int → α) (d : α) (c : Int) (hc : 0 ≤ c) (hc2 : c ≤ 1000) (n : Nat) (hn : n ≤ 1000000000) (k : Int) (hk : 0 ≤ k) (hk2 : k ≤ 100000000000) (L : Int → Int → Option Int)
  (hL : ∀ k' i : Int, 0 ≤ i → i ≤ n → 0 ≤ k' → k' ≤ 100000000000 + 1000 * n → (i < n → (marks el c n k).getD i.toNat d = el k') → L k' i = if i < (n : Int) then L (k' + c) (i + 1) else some k') :
  L k 0 = some (k + c * n) := by
 have hm := marks_length el c n k
 refine held_loop el d c hc hc2 (marks el c n k) (by omega) L (fun k' i => ?_) n k 0 (by omega) (by omega) (by simp) hk (by omega)
 rw [hm]
 exact hL k' i
/-! #### refl_loop -/
theorem refl_loop (n : Nat) (L : Int → Option Bool) (hL : ∀ i : Int, 0 ≤ i → i ≤ n → L i = if i < (n : Int) then L (i + 1) else some true) : ∀ (m : Nat) (i : Int), i + m = n → 0 ≤ i → L i = some true
 | 0, i, h, h0 => by rw [hL i h0 (by omega), if_neg (by omega)]
 | m + 1, i, h, h0 => by rw [hL i h0 (by omega), if_pos (by omega)]; exact refl_loop n L hL m (i + 1) (by omega) (by omega)
theorem refl_loop0 (n : Nat) (L : Int → Option Bool) (hL : ∀ i : Int, 0 ≤ i → i ≤ n → L i = if i < (n : Int) then L (i + 1) else some true) : L 0 = some true := refl_loop n L hL n 0 (by omega) (by omega)

/-! #### markText -/
theorem son_size (xs : List Int) : (strOfNums xs).size = xs.length := by simp [strOfNums, ByteArray.size]
theorem markText_l0 : ∀ (n : Nat) (k : Int) (s : ByteArray), 0 ≤ k → k < 10 ^ n → k ≤ 9223372036854775807 → s.size + n ≤ 1000 → ∃ r, laws_markText.l0L k s = some r
 | 0, k, s, h0, h1, h2, hs => by
  rw [laws_markText.l0L_eq, if_neg (by simp at h1; omega), if_pos (by omega)]; exact ⟨_, rfl⟩
 | n + 1, k, s, h0, h1, h2, hs => by
  by_cases e : k > 0
  ·have hd : Int.tdiv k 10 = k / 10 := Int.tdiv_eq_ediv_of_nonneg h0
   have hp : (10 : Int) ^ (n + 1) = 10 ^ n * 10 := Int.pow_succ 10 n
   have h3 : k / 10 < 10 ^ n := by omega
   rw [laws_markText.l0L_eq, if_pos e, Option.bind_some, if_pos (by rw [son_size]; simp; omega), hd, w64 (n := k / 10) (by omega) (by omega)]
   exact markText_l0 n (k / 10) _ (by omega) h3 (by omega) (by rw [ByteArray.size_append, son_size]; simp; omega)
  ·rw [laws_markText.l0L_eq, if_neg e, if_pos (by omega)]; exact ⟨_, rfl⟩
theorem markText_ok (k : Int) (h0 : 0 ≤ k) (h1 : k ≤ 9223372036854775807) : ∃ r, laws_markText.fL k = some r := by
 rw [laws_markText.fL_eq]
 by_cases e : k ≤ 0
 ·rw [if_pos e]; exact ⟨_, rfl⟩
 ·rw [if_neg e]; exact markText_l0 30 k _ h0 (by omega) h1 (show 0 + 30 ≤ 1000 by omega)
/-- The text of a mark. -/
noncomputable def mt (k : Int) : ByteArray := (laws_markText.fL k).getD (⟨#[]⟩ : ByteArray)
theorem mt_eq (k : Int) (h0 : 0 ≤ k) (h1 : k ≤ 9223372036854775807) : laws_markText.fL k = some (mt k) := by
 obtain ⟨r, hr⟩ := markText_ok k h0 h1
 unfold mt
 rw [hr]; rfl

/-! #### routeS -/
theorem eqInterval_refl (a b : ByteArray) : laws_eqInterval.f a b a b = some true := by unfold laws_eqInterval.f; simp
theorem eqRoute_refl (a : Int) (b c : ByteArray) : laws_eqRoute.f a b c a b c = some true := by unfold laws_eqRoute.f; simp [eqInterval_refl]
theorem eqRouteS_refl (xs : List S60) (hx : xs.length ≤ 1000000000000) : laws_eqRouteS.fL xs xs = some true := by
 rw [laws_eqRouteS.fL_eq, if_pos rfl]
 refine refl_loop0 xs.length (fun i => laws_eqRouteS.l0L xs xs i) (fun i h0 h1 => ?_)
 rw [laws_eqRouteS.l0L_eq]
 by_cases h : i < (xs.length : Int)
 ·rw [if_pos h, if_pos h0, if_pos h, eqRoute_refl, Option.bind_some, if_pos rfl, w64 (by omega) (by omega), if_pos h]
 ·rw [if_neg h, if_neg h]
/-- A marked route. -/
noncomputable def elRoute (k : Int) : S60 := ⟨k, ⟨mt (k + 1), mt (k + 1 + 1)⟩⟩
theorem rd_set_route (xs : List S60) (i : Int) (y : S60) (h0 : 0 ≤ i) (h : i < xs.length) : rd_T60 (xs.set i.toNat y) i = y := by
 unfold rd_T60
 rw [List.getD_eq_getElem?_getD, List.getElem?_set_self (by omega)]; rfl
theorem markRouteS_f (xs : List S60) (k : Int) (hx : xs.length ≤ 1000000000) (hk : 0 ≤ k) (hk2 : k ≤ 100000000000) : laws_markRouteS.fL xs k = some (k + 3 * xs.length, marks elRoute 3 xs.length k) := by
 rw [laws_markRouteS.fL_eq]
 refine mark_loop0 elRoute 3 (by omega) (by omega) xs hx k hk hk2 (fun zs k i => laws_markRouteS.l0L zs k i) (fun zs k i h0 h1 hl hk hk2 => ?_)
 rw [laws_markRouteS.l0L_eq]
 by_cases h : i < (xs.length : Int)
 ·have hz : i < (zs.length : Int) := by omega
  rw [if_pos hz, if_pos h0, Option.bind_some, w64 (n := k + 1) (by omega) (by omega), mt_eq (k + 1) (by omega) (by omega), Option.bind_some, Option.bind_some, w64 (n := k + 1 + 1) (by omega) (by omega), mt_eq (k + 1 + 1) (by omega) (by omega), Option.bind_some,
   w64 (n := k + 1 + 1 + 1) (by omega) (by omega), w64 (n := i + 1) (by omega) (by omega), if_pos h]
  have hz2 : ∀ y, i < ((zs.set i.toNat y).length : Int) := fun y => by rw [List.length_set]; exact hz
  rw [rd_set_route (zs.set i.toNat _) i _ h0 (hz2 _), rd_set_route zs i _ h0 hz, List.set_set, List.set_set, show k + 1 + 1 + 1 = k + 3 by omega]
  rfl
 ·rw [if_neg (by omega), if_neg h]
theorem heldRouteS_f (n : Nat) (k : Int) (hn : n ≤ 1000000000) (hk : 0 ≤ k) (hk2 : k ≤ 100000000000) : laws_heldRouteS.fL (marks elRoute 3 n k) k = some (k + 3 * n) := by
 have hm := marks_length elRoute 3 n k
 rw [laws_heldRouteS.fL_eq]
 refine held_loop0 elRoute z60 3 (by omega) (by omega) n hn k hk hk2 (fun k' i => laws_heldRouteS.l0L (marks elRoute 3 n k) k' i) (fun k' i h0 h1 hk hk2 he => ?_)
 rw [laws_heldRouteS.l0L_eq, hm]
 by_cases h : i < (n : Int)
 ·have he := he h
  have hr : rd_T60 (marks elRoute 3 n k) i = elRoute k' := he
  rw [if_pos h, if_pos h0, hr, if_pos h]
  rw [if_pos (show (elRoute k').f0 = k' from rfl), w64 (n := k' + 1) (by omega) (by omega), mt_eq (k' + 1) (by omega) (by omega), Option.bind_some, if_pos (show (elRoute k').f1.f0.toList = (mt (k' + 1)).toList from rfl),
   w64 (n := k' + 1 + 1) (by omega) (by omega), mt_eq (k' + 1 + 1) (by omega) (by omega), Option.bind_some, if_pos (show (elRoute k').f1.f1.toList = (mt (k' + 1 + 1)).toList from rfl),
   w64 (n := k' + 1 + 1 + 1) (by omega) (by omega), w64 (n := i + 1) (by omega) (by omega), show k' + 1 + 1 + 1 = k' + 3 by omega]
 ·rw [if_neg h, if_neg h]

end Go.Proofs.YtagknifdfpjlbaaDoor.Pure
