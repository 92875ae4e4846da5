/- Lemmas for FnReadRoutes: what each function comes to. No condition. -/
import Derived.Test.YtagknifdfpjlbaaDoorLFnReadRoutes
namespace Go.Proofs.YtagknifdfpjlbaaDoor.Pure
open Go.RowKit Go.Proofs.YtagknifdfpjlbaaDoor.PFnReadRoutes Go.Proofs.YtagknifdfpjlbaaDoorW.PrintWords Go.Proofs.YtagknifdfpjlbaaDoorW.PrintLast Go.Proofs.YtagknifdfpjlbaaDoorW.PrintMore Go.Proofs.YtagknifdfpjlbaaDoor.Lim
set_option linter.unusedVariables false
set_option linter.unusedSimpArgs false

/-! #### basic -/
theorem w64 {n : Int} (h1 : -9223372036854775808 ≤ n) (h2 : n ≤ 9223372036854775807) : wrap64 n = n := by unfold wrap64; omega
theorem wf8 {n : Int} (h : (Lit.int .u8 n).wf = true) : 0 ≤ n ∧ n ≤ 255 := by
 simp only [Lit.wf, IntKind.min, IntKind.max, IntKind.signed, IntKind.bits, Bool.and_eq_true, decide_eq_true_eq] at h
 simp at h
 omega
theorem rd_drop {xs : List Int} {i : Int} {y : Int} {ys : List Int} (h0 : 0 ≤ i) (h : xs.drop i.toNat = y :: ys) : rd xs i = y ∧ i < xs.length ∧ xs.drop (i + 1).toNat = ys := by
 have h1 : i.toNat < xs.length := by
  by_cases e : i.toNat < xs.length
  ·exact e
  ·rw [List.drop_eq_nil_of_le (by omega)] at h; cases h
 rw [List.drop_eq_getElem_cons h1] at h
 injection h with ha hb
 refine ⟨?_, by omega, ?_⟩
 ·unfold rd; rw [List.getD_eq_getElem?_getD, List.getElem?_eq_getElem h1]; exact ha
 ·rw [show (i + 1).toNat = i.toNat + 1 by omega]; exact hb
theorem drop_nil {α : Type} {xs : List α} {i : Int} (h0 : 0 ≤ i) (hi : i ≤ xs.length) (h : xs.drop i.toNat = []) : i = xs.length := by
 have := congrArg List.length h
 simp at this
 omega
theorem rdOf_drop {α : Type} {d : α} {xs : List α} {i : Int} {y : α} {ys : List α} (h0 : 0 ≤ i) (h : xs.drop i.toNat = y :: ys) : rdOf d xs i = y ∧ i < xs.length ∧ xs.drop (i + 1).toNat = ys := by
 have h1 : i.toNat < xs.length := by
  by_cases e : i.toNat < xs.length
  ·exact e
  ·rw [List.drop_eq_nil_of_le (by omega)] at h; cases h
 rw [List.drop_eq_getElem_cons h1] at h
 injection h with ha hb
 refine ⟨?_, by omega, ?_⟩
 ·unfold rdOf; rw [List.getD_eq_getElem?_getD, List.getElem?_eq_getElem h1]; exact ha
 ·rw [show (i + 1).toNat = i.toNat + 1 by omega]; exact hb

/-! #### bytes -/
/-- A string's bytes as numbers. -/
def bs (s : ByteArray) : List Int := s.data.toList.map fun b => (b.toNat : Int)
theorem bs_length (s : ByteArray) : (bs s).length = s.size := by simp [bs]
theorem bt_bs (s : ByteArray) (i : Int) : bt s i = rd (bs s) i := by
 unfold bt rd bs
 rw [List.getD_eq_getElem?_getD, List.getElem?_map]
 by_cases h : i.toNat < s.size
 ·rw [dif_pos h, List.getElem?_eq_getElem (by simpa using h)]; simp; rfl
 ·rw [dif_neg h, List.getElem?_eq_none (by simpa using h)]; rfl
theorem bs_inj {s t : ByteArray} (h : bs s = bs t) : s = t := by
 have h1 : s.data.toList = t.data.toList := by
  refine List.map_inj_right (f := fun b : UInt8 => (b.toNat : Int)) ?_ |>.1 h
  intro x y hxy
  exact UInt8.toNat_inj.1 (by omega)
 cases s; cases t
 simp only [ByteArray.mk.injEq]
 exact Array.ext' h1
theorem toList_loop (s : ByteArray) (i : Nat) (r : List UInt8) : ByteArray.toList.loop s i r = r.reverse ++ s.data.toList.drop i := by
 unfold ByteArray.toList.loop
 split
 next h =>
  rw [toList_loop s (i + 1) (s.get! i :: r)]
  have h' : i < s.data.toList.length := by simpa using h
  rw [List.drop_eq_getElem_cons h']
  have : s.get! i = s.data.toList[i] := by
   show s.data[i]! = _
   rw [getElem!_pos s.data i (by simpa using h)]; simp
  rw [this]; simp
 next h =>
  rw [List.drop_eq_nil_of_le (by simpa using h)]; simp
 termination_by s.size - i
theorem toList_data (s : ByteArray) : s.toList = s.data.toList := by
 unfold ByteArray.toList; rw [toList_loop]; simp
theorem toList_nil (s : ByteArray) : s.toList = [] ↔ bs s = [] := by rw [toList_data]; simp [bs]
theorem bs_drop (s : ByteArray) (i j : Nat) (hj : s.size ≤ j) : bs (s.extract i j) = (bs s).drop i := by
 unfold bs
 rw [ByteArray.data_extract, ← List.map_drop]
 congr 1
 rw [Array.toList_extract]
 have : s.data.toList.length = s.size := by simp
 simp only [List.extract]
 rw [List.take_of_length_le (by rw [List.length_drop]; omega)]
/-! #### spec_l1In -/
theorem spec_l1In_f (a lo hi : Int) : spec_l1In.f a lo hi = some (decide (lo ≤ a ∧ a ≤ hi)) := by
 unfold spec_l1In.f
 by_cases h : a ≥ lo
 ·rw [if_pos h]; congr 1; rw [decide_eq_decide]; omega
 ·rw [if_neg h]; congr 1; rw [eq_comm, decide_eq_false_iff_not]; omega

/-! #### words -/
/-- A string of these bytes. -/
def toBA (l : List UInt8) : ByteArray := ⟨l.toArray⟩
theorem toBA_data (s : ByteArray) : toBA s.data.toList = s := rfl
theorem size_data (s : ByteArray) : s.data.toList.length = s.size := Array.length_toList
theorem bt_drop {s : ByteArray} {i : Int} {x : UInt8} {r : List UInt8} (h : s.data.toList.drop i.toNat = x :: r) : bt s i = (x.toNat : Int) ∧ i.toNat < s.size ∧ s.data.toList.drop (i.toNat + 1) = r ∧ s.data.toList.take (i.toNat + 1) = s.data.toList.take i.toNat ++ [x] := by
 have hl : i.toNat < s.data.toList.length := by
  rcases Nat.lt_or_ge i.toNat s.data.toList.length with h' | h'
  ·exact h'
  ·rw [List.drop_eq_nil_of_le h'] at h; cases h
 have e := List.drop_eq_getElem_cons hl
 rw [h] at e
 injection e with e1 e2
 refine ⟨?_, by rw [← size_data]; exact hl, e2.symm, ?_⟩
 ·unfold bt
  rw [dif_pos (show i.toNat < s.size by rw [← size_data]; exact hl), e1]
  simp; rfl
 ·rw [List.take_succ_eq_append_getElem hl, e1]
theorem drop_end {s : ByteArray} {i : Int} (h0 : 0 ≤ i) (h : s.data.toList.drop i.toNat = []) : ¬ i < (s.size : Int) := by
 have := List.drop_eq_nil_iff.1 h
 rw [size_data] at this
 omega
/-- A word put ahead of the first one. -/
def glue (p : List UInt8) : List (List UInt8) → List (List UInt8)
 | [] => [p]
 | x :: xs => (p ++ x) :: xs
/-- The words between the places of a byte. -/
def wsp (c : UInt8) : List UInt8 → List (List UInt8)
 | [] => [[]]
 | b :: r => if b = c then [] :: wsp c r else glue [b] (wsp c r)
theorem glue_glue (p q : List UInt8) (l : List (List UInt8)) : glue p (glue q l) = glue (p ++ q) l := by
 cases l with
 | nil => rfl
 | cons x xs => simp [glue]
theorem glue_nil {l : List (List UInt8)} (h : l ≠ []) : glue [] l = l := by
 cases l with
 | nil => exact absurd rfl h
 | cons x xs => rfl
theorem glue_ne (p : List UInt8) (l : List (List UInt8)) : glue p l ≠ [] := by cases l <;> simp [glue]
theorem wsp_ne (c : UInt8) : ∀ l, wsp c l ≠ []
 | [] => by simp [wsp]
 | b :: r => by
  unfold wsp
  split
  ·simp
  ·exact glue_ne _ _
theorem wsp_app (c : UInt8) : ∀ (p r : List UInt8), c ∉ p → wsp c (p ++ r) = glue p (wsp c r)
 | [], r, _ => by rw [List.nil_append, glue_nil (wsp_ne c r)]
 | b :: p, r, h => by
  have hb : ¬ b = c := fun e => h (by rw [e]; exact List.mem_cons_self)
  rw [List.cons_append]
  show (if b = c then _ else glue [b] (wsp c (p ++ r))) = _
  rw [if_neg hb, wsp_app c p r (fun hp => h (List.mem_cons_of_mem _ hp)), glue_glue]; rfl
theorem wsp_tail (c : UInt8) : ∀ (l : List (List UInt8)), (∀ x ∈ l, c ∉ x) → wsp c (Lib.joinTail [c] l) = [] :: l
 | [], _ => rfl
 | x :: l, h => by
  have e : Lib.joinTail [c] (x :: l) = c :: (x ++ Lib.joinTail [c] l) := by simp [Lib.joinTail]
  rw [e]
  show (if c = c then [] :: wsp c (x ++ Lib.joinTail [c] l) else _) = _
  rw [if_pos rfl, wsp_app c x _ (h x List.mem_cons_self), wsp_tail c l (fun y hy => h y (List.mem_cons_of_mem _ hy))]
  simp [glue]
theorem wsp_join (c : UInt8) (l : List (List UInt8)) (h0 : l ≠ []) (h : ∀ x ∈ l, c ∉ x) : wsp c (Lib.join l [c]) = l := by
 cases l with
 | nil => exact absurd rfl h0
 | cons x l =>
  rw [Lib.join_cons, wsp_app c x _ (h x List.mem_cons_self), wsp_tail c l (fun y hy => h y (List.mem_cons_of_mem _ hy))]
  simp [glue]
theorem index_eq (c : UInt8) (l : List UInt8) : Lib.index (c :: l) [c] = 0 := by rw [Lib.index]; simp [List.isPrefixOf]
theorem index_ne {b c : UInt8} (l : List UInt8) (h : ¬ b = c) : Lib.index (b :: l) [c] = if Lib.index l [c] = -1 then -1 else Lib.index l [c] + 1 := by
 have hp : ([c] : List UInt8).isPrefixOf (b :: l) = false := by simp [List.isPrefixOf]; exact fun e => h e.symm
 rw [Lib.index, hp]
 by_cases e : Lib.index l [c] = -1 <;> simp [e]
theorem splitK_one (c : UInt8) : ∀ l : List UInt8, Lib.splitK [c] 0 (l.count c) l = wsp c l
 | [] => rfl
 | b :: l => by
  by_cases h : b = c
  ·subst h
   rw [List.count_cons_self, Lib.splitK, index_eq]
   show (if ((0 : Int) == -1) = true then _ else _) = _
   rw [if_neg (by decide)]
   show ([] : List UInt8) :: Lib.splitK [b] 0 (l.count b) l = _
   rw [splitK_one b l]
   show _ = if b = b then _ else _
   rw [if_pos rfl]
  ·rw [List.count_cons_of_ne (fun e => h (by simpa using e))]
   have ih := splitK_one c l
   show _ = if b = c then _ else glue [b] (wsp c l)
   rw [if_neg h, ← ih]
   cases hk : l.count c with
   | zero => rfl
   | succ k =>
    have hi : ¬ Lib.index l [c] = -1 := fun e => by
     have := Lib.count_miss e
     rw [Lib.count_one] at this; omega
    have hge := Lib.index_ge l [c]
    obtain ⟨j, hj⟩ : ∃ j : Nat, Lib.index l [c] = j := ⟨(Lib.index l [c]).toNat, by omega⟩
    rw [Lib.splitK, Lib.splitK, index_ne l h, if_neg hi, hj]
    rw [if_neg (show ¬ (((j : Int) + 1 == -1) = true) from fun e => by have := beq_iff_eq.1 e; omega), if_neg (show ¬ (((j : Int) == -1) = true) from fun e => by have := beq_iff_eq.1 e; omega)]
    rw [show ((j : Int) + 1).toNat = j + 1 by omega, show ((j : Int)).toNat = j by omega]
    rfl
/-- A text's part ahead of a byte, behind it, and whether it has one. -/
def cut1 (c : UInt8) : List UInt8 → List UInt8 × List UInt8 × Bool
 | [] => ([], [], false)
 | b :: r => if b = c then ([], r, true) else (b :: (cut1 c r).1, (cut1 c r).2.1, (cut1 c r).2.2)
theorem cut_one (c : UInt8) : ∀ l : List UInt8, Lib.cut l [c] = cut1 c l
 | [] => rfl
 | b :: l => by
  have ih := cut_one c l
  unfold Lib.cut at ih ⊢
  by_cases h : b = c
  ·subst h
   rw [index_eq]
   show (if (0 : Int) ≤ 0 then _ else _) = if b = b then _ else _
   rw [if_pos (by omega), if_pos rfl]; rfl
  ·show _ = if b = c then _ else (b :: (cut1 c l).1, (cut1 c l).2.1, (cut1 c l).2.2)
   rw [if_neg h, ← ih, index_ne l h]
   have hge := Lib.index_ge l [c]
   by_cases e : Lib.index l [c] = -1
   ·rw [if_pos e, e]; rfl
   ·obtain ⟨j, hj⟩ : ∃ j : Nat, Lib.index l [c] = j := ⟨(Lib.index l [c]).toNat, by omega⟩
    rw [if_neg e, hj, if_pos (by omega), if_pos (by omega), show ((j : Int) + 1).toNat = j + 1 by omega, show ((j : Int)).toNat = j by omega]
    rfl
theorem cut1_app (c : UInt8) : ∀ (p r : List UInt8), c ∉ p → cut1 c (p ++ c :: r) = (p, r, true)
 | [], r, _ => by show (if c = c then _ else _) = _; rw [if_pos rfl]
 | b :: p, r, h => by
  have hb : ¬ b = c := fun e => h (by rw [e]; exact List.mem_cons_self)
  show (if b = c then _ else (b :: (cut1 c (p ++ c :: r)).1, (cut1 c (p ++ c :: r)).2.1, (cut1 c (p ++ c :: r)).2.2)) = _
  rw [if_neg hb, cut1_app c p r (fun hp => h (List.mem_cons_of_mem _ hp))]
theorem strings_Split_e (s : ByteArray) (c : UInt8) (hs : s.size ≤ 2000000) : strings_Split.f s (⟨#[c]⟩ : ByteArray) = some ((wsp c s.data.toList).map toBA) := by
 have e : (Lib.splitB (⟨#[c]⟩ : ByteArray) 0 (Lib.countB s ⟨#[c]⟩) s).map (fun b => b.data.toList) = wsp c s.data.toList := by
  rw [Lib.splitB_data]
  show Lib.splitK [c] 0 (Lib.count s.data.toList [c]) s.data.toList = _
  rw [Lib.count_one, splitK_one]
 unfold strings_Split.f
 rw [if_pos ⟨by omega, by show 1 ≤ 1; omega⟩, ← e, List.map_map]
 congr 1
 exact (List.map_id _).symm
theorem strings_Cut_e (s : ByteArray) (c : UInt8) (hs : s.size ≤ 2000000) : strings_Cut.f s (⟨#[c]⟩ : ByteArray) = some (toBA (cut1 c s.data.toList).1, toBA (cut1 c s.data.toList).2.1, (cut1 c s.data.toList).2.2) := by
 unfold strings_Cut.f
 rw [if_pos (by omega)]
 show some (toBA (Lib.cut s.data.toList [c]).1, toBA (Lib.cut s.data.toList [c]).2.1, (Lib.cut s.data.toList [c]).2.2) = _
 rw [cut_one]
theorem byte_eq {x c : UInt8} : ((x.toNat : Int) = (c.toNat : Int)) ↔ x = c := ⟨fun h => UInt8.toNat_inj.1 (by omega), fun h => by rw [h]⟩
theorem ext_data (s : ByteArray) (i j : Nat) : (s.extract i j).data.toList = (s.data.toList.take j).drop i := by
 rw [ByteArray.data_extract, Array.toList_extract]
 simp [List.extract, List.drop_take]
theorem spec_l7Words_l0 (s : ByteArray) (hs : s.size ≤ 2000000) : ∀ (r : List UInt8) (i : Int) (out : List ByteArray) (cur : ByteArray), 0 ≤ i → s.data.toList.drop i.toNat = r → (out.length : Int) ≤ i → (cur.size : Int) ≤ i →
  spec_l7Words.l0L s (out ++ [cur]) i = some (out ++ (glue cur.data.toList (wsp 32 r)).map toBA)
 | [], i, out, cur, h0, hd, ho, hc => by
  rw [spec_l7Words.l0L_eq, if_neg (drop_end h0 hd)]
  simp [wsp, glue]; rfl
 | x :: r, i, out, cur, h0, hd, ho, hc => by
  obtain ⟨hb, hl, hd', ht⟩ := bt_drop hd
  have hi : (i + 1).toNat = i.toNat + 1 := by omega
  rw [spec_l7Words.l0L_eq, if_pos (by omega), if_pos h0, hb]
  have hw : wsp 32 (x :: r) = if x = 32 then [] :: wsp 32 r else glue [x] (wsp 32 r) := rfl
  by_cases h : x = 32
  ·have ih := spec_l7Words_l0 s hs r (i + 1) (out ++ [cur]) ⟨#[]⟩ (by omega) (by rw [hi]; exact hd') (by simp; omega) (by show ((0 : Nat) : Int) ≤ _; omega)
   rw [if_pos (by rw [h]; rfl), if_pos (by simp; omega), w64 (by omega) (by omega), ih, hw, if_pos h]
   have e : glue (⟨#[]⟩ : ByteArray).data.toList (wsp 32 r) = wsp 32 r := glue_nil (wsp_ne 32 r)
   rw [e]
   simp [glue]; rfl
  ·have hne : ¬ (x.toNat : Int) = 32 := fun e => h (byte_eq.1 e)
   have hlen : (((out ++ [cur]).length : Nat) : Int) - 1 = (out.length : Int) := by simp
   have hx : s.extract i.toNat (i + 1).toNat = ⟨#[x]⟩ := by
    have : (s.extract i.toNat (i + 1).toNat).data.toList = [x] := by
     rw [ext_data, hi, ht, List.drop_left' (by rw [List.length_take, size_data]; omega)]
    rw [← toBA_data (s.extract i.toNat (i + 1).toNat), this]; rfl
   have hg : rdOf ByteArray.empty (out ++ [cur]) (out.length : Int) = cur := by unfold rdOf; simp
   have hset : (out ++ [cur]).set (out.length : Int).toNat (cur ++ ⟨#[x]⟩) = out ++ [cur ++ ⟨#[x]⟩] := by simp
   have hcs : (cur ++ (⟨#[x]⟩ : ByteArray)).size = cur.size + 1 := by rw [ByteArray.size_append]; rfl
   have hcd : (cur ++ (⟨#[x]⟩ : ByteArray)).data.toList = cur.data.toList ++ [x] := by simp
   have ih := spec_l7Words_l0 s hs r (i + 1) out (cur ++ ⟨#[x]⟩) (by omega) (by rw [hi]; exact hd') (by omega) (by rw [hcs]; omega)
   rw [if_neg hne, w64 (n := (((out ++ [cur]).length : Nat) : Int) - 1) (by rw [hlen]; omega) (by rw [hlen]; omega), hlen, w64 (n := i + 1) (by omega) (by omega), if_pos (by omega), if_pos (by simp; omega), if_pos (by omega), if_pos (by omega), hx, hg, if_pos (by show cur.size + 1 ≤ _; omega), hset, ih, hw, if_neg h, hcd, glue_glue]
theorem spec_l7Words_f (s : ByteArray) (hs : s.size ≤ 2000000) : spec_l7Words.fL s = some ((wsp 32 s.data.toList).map toBA) := by
 have h := spec_l7Words_l0 s hs s.data.toList 0 [] ⟨#[]⟩ (by omega) (by simp) (by simp) (by show ((0 : Nat) : Int) ≤ _; omega)
 have e : glue (⟨#[]⟩ : ByteArray).data.toList (wsp 32 s.data.toList) = wsp 32 s.data.toList := glue_nil (wsp_ne 32 _)
 rw [e, List.nil_append, List.nil_append] at h
 rw [spec_l7Words.fL_eq]
 exact h
theorem spec_l41Split_l0 (s : ByteArray) (hs : s.size ≤ 2000000) (c : UInt8) : ∀ (r : List UInt8) (i : Int), 0 ≤ i → s.data.toList.drop i.toNat = r →
  spec_l41Split.l0L s (c.toNat : Int) i = some (toBA (s.data.toList.take i.toNat ++ (cut1 c r).1), toBA (cut1 c r).2.1, (cut1 c r).2.2)
 | [], i, h0, hd => by
  rw [spec_l41Split.l0L_eq, if_neg (drop_end h0 hd)]
  have : s.data.toList.take i.toNat = s.data.toList := List.take_of_length_le (List.drop_eq_nil_iff.1 hd)
  show _ = some (toBA (s.data.toList.take i.toNat ++ []), toBA [], false)
  rw [this, List.append_nil, toBA_data]; rfl
 | x :: r, i, h0, hd => by
  obtain ⟨hb, hl, hd', ht⟩ := bt_drop hd
  have hi : (i + 1).toNat = i.toNat + 1 := by omega
  have hw : cut1 c (x :: r) = if x = c then ([], r, true) else (x :: (cut1 c r).1, (cut1 c r).2.1, (cut1 c r).2.2) := rfl
  rw [spec_l41Split.l0L_eq, if_pos (by omega), if_pos h0, hb, w64 (by omega) (by omega), hw]
  by_cases h : x = c
  ·rw [if_pos (by rw [h]), if_pos (by omega), if_pos (by omega), if_pos (by omega), if_pos h]
   have e1 : s.extract 0 i.toNat = toBA (s.data.toList.take i.toNat) := by rw [← toBA_data (s.extract 0 i.toNat), ext_data]; rfl
   have e2 : s.extract (i + 1).toNat s.size = toBA r := by
    rw [← toBA_data (s.extract (i + 1).toNat s.size), ext_data, List.take_of_length_le (by rw [size_data]; omega), hi, hd']
   rw [e1, e2, List.append_nil]
  ·rw [if_neg (fun e => h (byte_eq.1 e)), spec_l41Split_l0 s hs c r (i + 1) (by omega) (by rw [hi]; exact hd'), if_neg h, hi, ht]
   simp
theorem spec_l41Split_f (s : ByteArray) (hs : s.size ≤ 2000000) (c : UInt8) : spec_l41Split.fL s (c.toNat : Int) = some (toBA (cut1 c s.data.toList).1, toBA (cut1 c s.data.toList).2.1, (cut1 c s.data.toList).2.2) := by
 rw [spec_l41Split.fL_eq, spec_l41Split_l0 s hs c s.data.toList 0 (by omega) (by simp)]; rfl
/-- A numeral's value. -/
def dv : Nat → List UInt8 → Nat
 | acc, [] => acc
 | acc, x :: r => dv (acc * 10 + (x.toNat - 48)) r
theorem dv_app : ∀ (l : List UInt8) (acc : Nat) (x : UInt8), dv acc (l ++ [x]) = dv acc l * 10 + (x.toNat - 48)
 | [], acc, x => rfl
 | y :: l, acc, x => dv_app l _ x
def digits (l : List UInt8) : Prop := ∀ x ∈ l, 48 ≤ x.toNat ∧ x.toNat ≤ 57
theorem dig_toNat (d : Nat) (h : d < 10) : (UInt8.ofNat (48 + d)).toNat = 48 + d := by
 rw [UInt8.toNat_ofNat']; omega
theorem dec_says (v : Nat) : digits (Lib.decDigits v) ∧ dv 0 (Lib.decDigits v) = v ∧ Lib.decDigits v ≠ [] := by
 induction v using Nat.strongRecOn with
 | _ v ih =>
  rw [Lib.decDigits]
  by_cases h : v < 10
  ·rw [dif_pos h]
   refine ⟨fun x hx => ?_, ?_, by simp⟩
   ·rw [List.mem_singleton.1 hx, dig_toNat v h]; omega
   ·show 0 * 10 + ((UInt8.ofNat (48 + v)).toNat - 48) = v
    rw [dig_toNat v h]; omega
  ·obtain ⟨h1, h2, _⟩ := ih (v / 10) (by omega)
   rw [dif_neg h]
   have e := dig_toNat (v % 10) (by omega)
   refine ⟨fun x hx => ?_, ?_, by simp⟩
   ·rcases List.mem_append.1 hx with hx | hx
    ·exact h1 x hx
    ·rw [List.mem_singleton.1 hx, e]; omega
   ·rw [dv_app, h2, e]; omega
theorem dec_len : ∀ (k v : Nat), 1 ≤ k → v < 10 ^ k → (Lib.decDigits v).length ≤ k
 | 0, v, h, _ => by omega
 | k + 1, v, h, hv => by
  rw [Lib.decDigits]
  by_cases c : v < 10
  ·rw [dif_pos c]; simp
  ·rw [dif_neg c]
   rw [Nat.pow_succ] at hv
   have hk : 1 ≤ k := by
    cases k with
    | zero => simp at hv; omega
    | succ k => omega
   have := dec_len k (v / 10) hk (by omega)
   simp; omega
theorem itoa_nat (v : Nat) : Lib.itoa (v : Int) = Lib.decDigits v := by unfold Lib.itoa; rw [if_neg (by omega)]; simp
theorem parse_dv : ∀ (r : List UInt8) (acc j : Nat), digits r → acc < 10 ^ j → j + r.length ≤ 8 → Lib.parseUint10 acc r = .ok (dv acc r)
 | [], acc, j, _, _, _ => rfl
 | x :: r, acc, j, hd, ha, hj => by
  have hx := hd x List.mem_cons_self
  rw [List.length_cons] at hj
  have hp : 10 ^ j ≤ 10 ^ 8 := Nat.pow_le_pow_right (by omega) (by omega)
  have hp8 : (10 : Nat) ^ 8 = 100000000 := by decide
  have ih := parse_dv r (acc * 10 + (x.toNat - 48)) (j + 1) (fun y hy => hd y (List.mem_cons_of_mem _ hy)) (by rw [Nat.pow_succ]; omega) (by omega)
  rw [Lib.parseUint10, if_pos hx, if_neg (by omega), if_neg (by omega), ih]; rfl
theorem number_dv (s : ByteArray) (hs : s.size ≤ 8) : ∀ (r : List UInt8) (acc j : Nat) (i : Int), 0 ≤ i → s.data.toList.drop i.toNat = r → digits r → acc < 10 ^ j → j + r.length ≤ 8 → spec_l7Number.l0L s (acc : Int) i = some (dv acc r : Int)
 | [], acc, j, i, h0, hd, _, _, _ => by rw [spec_l7Number.l0L_eq, if_neg (drop_end h0 hd)]; rfl
 | x :: r, acc, j, i, h0, hd, hg, ha, hj => by
  obtain ⟨hb, hl, hd', _⟩ := bt_drop hd
  have hi : (i + 1).toNat = i.toNat + 1 := by omega
  have hx := hg x List.mem_cons_self
  rw [List.length_cons] at hj
  have hp : 10 ^ j ≤ 10 ^ 8 := Nat.pow_le_pow_right (by omega) (by omega)
  have hp8 : (10 : Nat) ^ 8 = 100000000 := by decide
  have ih := number_dv s hs r (acc * 10 + (x.toNat - 48)) (j + 1) (i + 1) (by omega) (by rw [hi]; exact hd') (fun y hy => hg y (List.mem_cons_of_mem _ hy)) (by rw [Nat.pow_succ]; omega) (by omega)
  have e : wrap64 (wrap64 (10 * (acc : Int)) + ((x.toNat : Int) - 48) % 256) = ((acc * 10 + (x.toNat - 48) : Nat) : Int) := by
   rw [w64 (n := 10 * (acc : Int)) (by omega) (by omega), w64 (by omega) (by omega)]; omega
  rw [spec_l7Number.l0L_eq, if_pos (by omega), if_pos h0, hb, if_neg (by omega), if_neg (by omega), e, w64 (by omega) (by omega), ih]; rfl
theorem spec_l7Number_itoa (v : Int) (h0 : 0 ≤ v) (h1 : v ≤ 999) : spec_l7Number.fL (toBA (Lib.itoa v)) = some v := by
 obtain ⟨n, rfl⟩ := Int.eq_ofNat_of_zero_le h0
 obtain ⟨d1, d2, d3⟩ := dec_says n
 have hl := dec_len 3 n (by omega) (by show n < 1000; omega)
 have hp : 0 < (Lib.decDigits n).length := List.length_pos_iff.2 d3
 rw [itoa_nat]
 have hz : (toBA (Lib.decDigits n)).size = (Lib.decDigits n).length := by simp [toBA, ByteArray.size]
 have hn : spec_l7Number.l0L (toBA (Lib.decDigits n)) ((0 : Nat) : Int) 0 = some (dv 0 (Lib.decDigits n) : Int) := number_dv (toBA (Lib.decDigits n)) (by omega) (Lib.decDigits n) 0 0 0 (by omega) rfl d1 (by simp) (by omega)
 rw [spec_l7Number.fL_eq, spec_l1In_f, Option.bind_some, if_pos (by rw [hz]; exact decide_eq_true ⟨by omega, by omega⟩)]
 rw [d2] at hn
 exact hn
theorem impl_numberOf_itoa (v : Int) (h0 : 0 ≤ v) (h1 : v ≤ 999) : impl_numberOf.f (toBA (Lib.itoa v)) = some v := by
 obtain ⟨n, rfl⟩ := Int.eq_ofNat_of_zero_le h0
 obtain ⟨d1, d2, d3⟩ := dec_says n
 have hl := dec_len 3 n (by omega) (by show n < 1000; omega)
 rw [itoa_nat]
 have hz : (toBA (Lib.decDigits n)).size = (Lib.decDigits n).length := by simp [toBA, ByteArray.size]
 have hp : Lib.parseUint10 0 (Lib.decDigits n) = .ok n := by rw [parse_dv _ 0 0 d1 (by simp) (by omega), d2]
 have ha : Lib.atoiAll (Lib.decDigits n) = .ok (n : Int) := by
  cases hc : Lib.decDigits n with
  | nil => exact absurd hc d3
  | cons c r =>
   have hcd := d1 c (by rw [hc]; exact List.mem_cons_self)
   have hm : Lib.parseMag (c :: r) = .ok n := by
    unfold Lib.parseMag
    rw [if_neg (by simp), ← hc, hp]
   have h43 : ¬ (c.toNat = 43 ∨ c.toNat = 45) := by omega
   have h45 : ¬ (c.toNat = 45) := by omega
   have hm' : Lib.parseMag (if c.toNat = 43 ∨ c.toNat = 45 then r else c :: r) = .ok n := by rw [if_neg h43, hm]
   have hz' : ¬ (¬ (c.toNat = 45) ∧ 9223372036854775808 ≤ n) := by omega
   have hz2 : ¬ (c.toNat = 45 ∧ 9223372036854775808 < n) := by omega
   unfold Lib.atoiAll
   simp only [hm']
   rw [if_neg hz', if_neg hz2, if_neg h45]
 unfold impl_numberOf.f
 rw [if_pos (by rw [hz]; omega)]
 show some (numOr (Lib.atoiAll (Lib.decDigits n))) = _
 rw [ha]; rfl

/-! #### keys -/
def letters (l : List Int) : Bool := l.all fun b => decide (97 ≤ b ∧ b ≤ 122)
/-- KeyValid, over the bytes. -/
def keyOk (l : List Int) : Bool := decide (1 ≤ l.length ∧ l.length ≤ 4) && letters l
theorem rd_zero {l : List Int} {b : Int} {t : List Int} (h : l = b :: t) : rd l 0 = b := by subst h; rfl
theorem impl_lettersOnly_f : ∀ (l : List Int) (s : ByteArray), bs s = l → impl_lettersOnly.fL s = some (letters l)
 | [], s, h => by rw [impl_lettersOnly.fL_eq, if_pos ((toList_nil s).2 h)]; rfl
 | b :: l, s, h => by
  have hs : s.size = l.length + 1 := by rw [← bs_length, h]; rfl
  have hn : ¬ s.toList = [] := by rw [toList_nil, h]; simp
  have hd : bs (s.extract 1 s.size) = l := by rw [bs_drop s 1 s.size (Nat.le_refl _), h]; rfl
  rw [impl_lettersOnly.fL_eq, if_neg hn, if_pos (by omega), bt_bs, rd_zero h, if_pos (by omega : (1 : Int) ≤ (s.size : Int)), impl_lettersOnly_f l _ hd, Option.bind_some]
  unfold letters
  rw [List.all_cons]
  by_cases h1 : b ≥ 97
  ·rw [if_pos h1]
   by_cases h2 : b ≤ 122
   ·rw [if_pos h2, show decide (97 ≤ b ∧ b ≤ 122) = true from decide_eq_true ⟨h1, h2⟩]; rfl
   ·rw [if_neg h2, show decide (97 ≤ b ∧ b ≤ 122) = false from decide_eq_false (by omega)]; rfl
  ·rw [if_neg h1, show decide (97 ≤ b ∧ b ≤ 122) = false from decide_eq_false (by omega)]; rfl
theorem impl_KeyValid_f (s : ByteArray) : impl_KeyValid.fL s = some (keyOk (bs s)) := by
 rw [impl_KeyValid.fL_eq, impl_lettersOnly_f _ s rfl, Option.bind_some]
 unfold keyOk
 rw [bs_length]
 by_cases h1 : (s.size : Int) < 1
 ·rw [if_pos h1, decide_eq_false (by omega)]; rfl
 ·rw [if_neg h1]
  by_cases h2 : (s.size : Int) > 4
  ·rw [if_pos h2, decide_eq_false (by omega)]; rfl
  ·rw [if_neg h2, decide_eq_true (by omega)]; rfl
theorem keyOk_len {l : List Int} (h : keyOk l = true) : 1 ≤ l.length ∧ l.length ≤ 4 := by
 simp only [keyOk, Bool.and_eq_true, decide_eq_true_eq] at h; exact h.1
theorem keyOk_letters {l : List Int} (h : keyOk l = true) : letters l = true := by
 simp only [keyOk, Bool.and_eq_true, decide_eq_true_eq] at h; exact h.2
theorem letters_cons {b : Int} {l : List Int} (h : letters (b :: l) = true) : (97 ≤ b ∧ b ≤ 122) ∧ letters l = true := by
 simp only [letters, List.all_cons, Bool.and_eq_true, decide_eq_true_eq] at h
 exact ⟨h.1, by simp only [letters]; exact h.2⟩

/-! #### valueValid -/
/-! #### spec_KeyValid -/
theorem spec_KeyValid_l0 (s : ByteArray) (hs : s.size ≤ 1000) : ∀ (ys : List Int) (i : Int), 0 ≤ i → i ≤ s.size → (bs s).drop i.toNat = ys → spec_KeyValid.l0L s i = some (letters ys)
 | [], i, h0, h1, hd => by
  have := drop_nil h0 (by rw [bs_length]; exact h1) hd
  rw [bs_length] at this
  rw [spec_KeyValid.l0L_eq, if_neg (by omega)]; rfl
 | y :: ys, i, h0, h1, hd => by
  obtain ⟨hr, hl, hd'⟩ := rd_drop h0 hd
  rw [bs_length] at hl
  rw [spec_KeyValid.l0L_eq, if_pos hl, if_pos h0, bt_bs, hr, w64 (by omega) (by omega)]
  unfold letters
  rw [List.all_cons]
  by_cases e1 : y < 97
  ·rw [if_pos e1, decide_eq_false (by omega)]; rfl
  ·rw [if_neg e1]
   by_cases e2 : y > 122
   ·rw [if_pos e2, decide_eq_false (by omega)]; rfl
   ·rw [if_neg e2, decide_eq_true (by omega), spec_KeyValid_l0 s hs ys (i + 1) (by omega) (by omega) hd']; rfl
theorem spec_KeyValid_f (s : ByteArray) : spec_KeyValid.fL s = some (keyOk (bs s)) := by
 rw [spec_KeyValid.fL_eq, spec_l1In_f, Option.bind_some]
 unfold keyOk
 rw [bs_length]
 by_cases h : 1 ≤ (s.size : Int) ∧ (s.size : Int) ≤ 4
 ·rw [if_pos (by simpa using h), decide_eq_true (by omega), spec_KeyValid_l0 s (by omega) (bs s) 0 (by omega) (by omega) (by simp)]; rfl
 ·rw [if_neg (by simpa using h), decide_eq_false (by omega)]; rfl

/-! #### pairs -/
def klt (a b : ByteArray) : Bool := Op.bytesLess a.toList b.toList
theorem getD_cons {α : Type} {xs : List α} {d : α} {i : Int} {y : α} {ys : List α} (h0 : 0 ≤ i) (h : xs.drop i.toNat = y :: ys) : xs.getD i.toNat d = y ∧ i < xs.length ∧ xs.drop (i + 1).toNat = ys := by
 have h1 : i.toNat < xs.length := by
  by_cases e : i.toNat < xs.length
  ·exact e
  ·rw [List.drop_eq_nil_of_le (by omega)] at h; cases h
 rw [List.drop_eq_getElem_cons h1] at h
 injection h with ha hb
 refine ⟨?_, by omega, ?_⟩
 ·rw [List.getD_eq_getElem?_getD, List.getElem?_eq_getElem h1]; exact ha
 ·rw [show (i + 1).toNat = i.toNat + 1 by omega]; exact hb

/-! #### readnum -/
theorem letters_mem {l : List UInt8} (h : letters (l.map fun b => (b.toNat : Int)) = true) : ∀ b ∈ l, 97 ≤ b.toNat ∧ b.toNat ≤ 122 := by
 intro b hb
 unfold letters at h
 have := List.all_eq_true.1 h (b.toNat : Int) (List.mem_map.2 ⟨b, hb, rfl⟩)
 have := of_decide_eq_true this
 omega
theorem digits_itoa {v : Int} (h0 : 0 ≤ v) : digits (Lib.itoa v) := by
 obtain ⟨n, rfl⟩ := Int.eq_ofNat_of_zero_le h0
 rw [itoa_nat]
 exact (dec_says n).1
def numI (s : ByteArray) : Int := numOr (Lib.atoiAll s.data.toList)
noncomputable def numS (s : ByteArray) : Int := (spec_l7Number.fL s).getD 0
theorem numI_itoa (v : Int) (h0 : 0 ≤ v) (h1 : v ≤ 999) : numI (toBA (Lib.itoa v)) = v := by
 have h := impl_numberOf_itoa v h0 h1
 unfold impl_numberOf.f at h
 split at h
 ·exact Option.some.inj h
 ·cases h
theorem numS_itoa (v : Int) (h0 : 0 ≤ v) (h1 : v ≤ 999) : numS (toBA (Lib.itoa v)) = v := by unfold numS; rw [spec_l7Number_itoa v h0 h1]; rfl
theorem wsp_sizes (c : UInt8) : ∀ (l : List UInt8), (∀ x ∈ wsp c l, x.length ≤ l.length) ∧ (wsp c l).length ≤ l.length + 1
 | [] => by simp [wsp]
 | b :: r => by
  obtain ⟨h1, h2⟩ := wsp_sizes c r
  show (∀ x ∈ (if b = c then [] :: wsp c r else glue [b] (wsp c r)), _) ∧ (if b = c then [] :: wsp c r else glue [b] (wsp c r)).length ≤ _
  split
  ·refine ⟨fun x hx => ?_, by simp; omega⟩
   rcases List.mem_cons.1 hx with rfl | hx
   ·simp
   ·have := h1 x hx; simp; omega
  ·cases hw : wsp c r with
   | nil => exact absurd hw (wsp_ne c r)
   | cons y ys =>
    rw [hw] at h1 h2
    refine ⟨fun x hx => ?_, by simp [glue] at h2 ⊢; omega⟩
    rcases List.mem_cons.1 hx with rfl | hx
    ·have := h1 y List.mem_cons_self; simp; omega
    ·have := h1 x (List.mem_cons_of_mem _ hx); simp; omega
theorem cut1_len (c : UInt8) : ∀ l : List UInt8, (cut1 c l).2.1.length ≤ l.length
 | [] => by simp [cut1]
 | b :: r => by
  have := cut1_len c r
  show (if b = c then ([], r, true) else (b :: (cut1 c r).1, (cut1 c r).2.1, (cut1 c r).2.2)).2.1.length ≤ _
  split
  ·simp
  ·simp; omega
theorem size_toBA (l : List UInt8) : (toBA l).size = l.length := by simp [toBA, ByteArray.size]
theorem strAt_drop {xs : List ByteArray} {i : Int} {y : ByteArray} {ys : List ByteArray} (h0 : 0 ≤ i) (hd : xs.drop i.toNat = y :: ys) : rdOf ByteArray.empty xs i = y ∧ i < (xs.length : Int) ∧ xs.drop (i + 1).toNat = ys := by
 obtain ⟨a, b, c⟩ := getD_cons (d := ByteArray.empty) h0 hd
 exact ⟨a, b, c⟩
theorem ba_list {a b : ByteArray} : a.toList = b.toList ↔ a = b := by
 rw [toList_data, toList_data]
 exact ⟨fun h => by rw [← toBA_data a, h, toBA_data], fun h => by rw [h]⟩
theorem spec_l7Number_all (s : ByteArray) : ∃ r, spec_l7Number.fL s = some r := by
 rw [spec_l7Number.fL_eq, spec_l1In_f, Option.bind_some]
 by_cases h : (1 : Int) ≤ s.size ∧ (s.size : Int) ≤ 4
 ·rw [if_pos (decide_eq_true h)]
  have loop : ∀ (n : Nat) (i acc : Int), (s.size : Int) - i ≤ n → 0 ≤ i → ∃ r, spec_l7Number.l0L s acc i = some r := by
   intro n
   induction n with
   | zero =>
    intro i acc hn h0
    rw [spec_l7Number.l0L_eq, if_neg (by omega)]; exact ⟨_, rfl⟩
   | succ n ih =>
    intro i acc hn h0
    rw [spec_l7Number.l0L_eq]
    split
    ·split
     ·exact ⟨_, rfl⟩
     ·split
      ·exact ⟨_, rfl⟩
      ·rw [w64 (n := i + 1) (by omega) (by omega)]
       exact ih _ _ (by omega) (by omega)
    ·exact ⟨_, rfl⟩
  exact loop 4 0 0 (by omega) (by omega)
 ·rw [if_neg (by rw [decide_eq_false h]; simp)]; exact ⟨_, rfl⟩

/-! #### l7Text -/
theorem dig_of (a : Nat) (h1 : a ≤ 1000000) : strOfNums ([(wrap64 (48 + (Int.tmod (a : Int) 10))) % 256] : List Int) = ⟨#[UInt8.ofNat (48 + a % 10)]⟩ := by
 have : ((wrap64 (48 + Int.tmod (a : Int) 10)) % 256).toNat = 48 + a % 10 := by
  rw [Int.tmod_eq_emod_of_nonneg (by omega), w64 (by omega) (by omega)]; omega
 unfold strOfNums
 rw [List.map_cons, List.map_nil, this]
theorem l7_loop (a : Nat) : ∀ (b : ByteArray), a + b.size ≤ 1000000 → spec_l7Text.l0L (a : Int) b = some ⟨((if a < 10 then [] else Lib.decDigits (a / 10)) ++ b.data.toList).toArray⟩ := by
 induction a using Nat.strongRecOn with
 | _ a ih =>
  intro b h
  rw [spec_l7Text.l0L_eq]
  by_cases h9 : a < 10
  ·rw [if_neg (by omega), if_pos h9, List.nil_append]
  ·have e1 : wrap64 (Int.tdiv (a : Int) 10) = ((a / 10 : Nat) : Int) := by
    rw [Int.tdiv_eq_ediv_of_nonneg (by omega), w64 (by omega) (by omega)]; omega
   have hs : ((⟨#[UInt8.ofNat (48 + a / 10 % 10)]⟩ : ByteArray) ++ b).size = b.size + 1 := by rw [ByteArray.size_append]; show 1 + b.size = _; omega
   have hd : ((⟨#[UInt8.ofNat (48 + a / 10 % 10)]⟩ : ByteArray) ++ b).data.toList = UInt8.ofNat (48 + a / 10 % 10) :: b.data.toList := by simp
   rw [if_pos (by omega), e1, Option.bind_some, dig_of _ (by omega), if_pos (show (⟨#[UInt8.ofNat (48 + a / 10 % 10)]⟩ : ByteArray).size + b.size ≤ 9223372036854775807 by show 1 + b.size ≤ _; omega), ih (a / 10) (by omega) _ (by omega), if_neg h9, hd]
   by_cases h2 : a / 10 < 10
   ·rw [if_pos h2, Lib.decDigits, dif_pos h2, Nat.mod_eq_of_lt h2]; rfl
   ·rw [if_neg h2, Lib.decDigits.eq_1 (a / 10), dif_neg h2, List.append_assoc]; rfl
theorem spec_l7Text_f (n : Int) (h0 : 0 ≤ n) (h1 : n ≤ 100000) : spec_l7Text.fL n = some ⟨(Lib.itoa n).toArray⟩ := by
 obtain ⟨a, rfl⟩ := Int.eq_ofNat_of_zero_le h0
 have hs : (⟨#[UInt8.ofNat (48 + a % 10)]⟩ : ByteArray).size = 1 := rfl
 have e : Lib.itoa (a : Int) = Lib.decDigits a := by unfold Lib.itoa; rw [if_neg (by omega)]; simp
 rw [spec_l7Text.fL_eq, if_neg (by omega), dig_of _ (by omega), l7_loop a _ (by omega), e, Lib.decDigits.eq_1 a]
 by_cases h2 : a < 10
 ·rw [if_pos h2, dif_pos h2, Nat.mod_eq_of_lt h2]; rfl
 ·rw [if_neg h2, dif_neg h2]
theorem decDigits_len (u : Nat) : (Lib.decDigits u).length ≤ u + 1 := by
 induction u using Nat.strongRecOn with
 | _ u ih =>
  rw [Lib.decDigits]
  by_cases h : u < 10
  ·rw [dif_pos h]; simp
  ·have := ih (u / 10) (by omega)
   rw [dif_neg h, List.length_append]
   simp only [List.length_cons, List.length_nil]
   omega
theorem itoa_len {n : Int} (h0 : 0 ≤ n) (h1 : n ≤ 999) : (Lib.itoa n).length ≤ 1000 := by
 unfold Lib.itoa
 rw [if_neg (by omega)]
 have := decDigits_len n.toNat
 omega
theorem strconv_Itoa_e {n : Int} (h0 : 0 ≤ n) (h1 : n ≤ 100000) : strconv_Itoa.f n = some ⟨(Lib.itoa n).toArray⟩ := by
 unfold strconv_Itoa.f
 rw [if_pos ⟨by omega, by omega⟩]
theorem joinTail_len : ∀ (l : List (List UInt8)) (m : Nat), (∀ x ∈ l, x.length ≤ m) → (Lib.joinTail [32] l).length ≤ (m + 1) * l.length
 | [], m, _ => by simp [Lib.joinTail]
 | x :: l, m, h => by
  have h1 := h x List.mem_cons_self
  have h2 := joinTail_len l m (fun y hy => h y (List.mem_cons_of_mem _ hy))
  have e : Lib.joinTail [32] (x :: l) = 32 :: x ++ Lib.joinTail [32] l := by simp [Lib.joinTail]
  rw [e, List.length_append, List.length_cons, List.length_cons, Nat.mul_add, Nat.mul_one]
  omega
theorem join_len (l : List (List UInt8)) (m : Nat) (h : ∀ x ∈ l, x.length ≤ m) : (Lib.join l [32]).length ≤ (m + 1) * l.length := by
 cases l with
 | nil => simp [Lib.join_nil]
 | cons x l =>
  have h1 := h x List.mem_cons_self
  have h2 := joinTail_len l m (fun y hy => h y (List.mem_cons_of_mem _ hy))
  rw [Lib.join_cons, List.length_append, List.length_cons, Nat.mul_add, Nat.mul_one]
  omega
theorem strings_Join_e (l : List ByteArray) (m : Nat) (hl : l.length ≤ 1000000) (hm : m ≤ 1000000) (h : ∀ x ∈ l, x.size ≤ m) : strings_Join.f l (⟨#[32]⟩ : ByteArray) = some ⟨(Lib.join (l.map (·.data.toList)) [32]).toArray⟩ := by
 have hj := join_len (l.map (·.data.toList)) m (fun x hx => by
  obtain ⟨y, hy, rfl⟩ := List.mem_map.1 hx
  have := h y hy
  simpa using this)
 rw [List.length_map] at hj
 have hb : (m + 1) * l.length ≤ 1000001 * 1000000 := Nat.mul_le_mul (by omega) hl
 unfold strings_Join.f
 rw [if_pos ⟨by omega, by show (Lib.join (l.map (·.data.toList)) [32]).length ≤ _; omega⟩]

/-! #### ivOk -/
/-- The least key of an interval with this lower bound. -/
def low (lo : ByteArray) : ByteArray := if lo.toList = [] then (⟨#[97]⟩ : ByteArray) else lo
def ivOk (lo hi : ByteArray) : Bool :=
 (decide (lo.toList = []) || keyOk (bs lo)) && (decide (hi.toList = []) || keyOk (bs hi)) && (decide (hi.toList = []) || Op.bytesLess (low lo).toList hi.toList)
def joinOk (a b c d : ByteArray) : Bool := ivOk a b && ivOk c d && !decide (b.toList = []) && decide (b.toList = c.toList)

/-! #### ivimpl -/
theorem impl_lowestKey_f (lo hi : ByteArray) : impl_lowestKey.f lo hi = some (low lo) := by
 unfold impl_lowestKey.f low
 split <;> rfl
theorem impl_IntervalValid_f (lo hi : ByteArray) : impl_IntervalValid.fL lo hi = some (ivOk lo hi) := by
 rw [impl_IntervalValid.fL_eq, impl_KeyValid_f, impl_KeyValid_f, impl_lowestKey_f]
 simp only [Option.bind_some]
 unfold ivOk
 by_cases h1 : lo.toList = []
 ·rw [if_pos h1, decide_eq_true h1]
  by_cases h2 : hi.toList = []
  ·rw [if_pos h2, decide_eq_true h2]; rfl
  ·rw [if_neg h2, decide_eq_false h2]
   cases keyOk (bs hi) <;> simp
 ·rw [if_neg h1, decide_eq_false h1]
  by_cases h2 : hi.toList = []
  ·rw [if_pos h2, decide_eq_true h2]
   cases keyOk (bs lo) <;> simp
  ·rw [if_neg h2, decide_eq_false h2]
   cases keyOk (bs lo) <;> cases keyOk (bs hi) <;> simp

/-! #### Interval -/
theorem impl_IntervalJoin_f (a b c d : ByteArray) : impl_IntervalJoin.fL a b c d = some (if joinOk a b c d = true then (a, d, true) else ((⟨#[]⟩ : ByteArray), (⟨#[]⟩ : ByteArray), false)) := by
 rw [impl_IntervalJoin.fL_eq, impl_IntervalValid_f, impl_IntervalValid_f]
 simp only [Option.bind_some]
 unfold joinOk
 cases ivOk a b with
 | false => simp
 | true =>
  cases ivOk c d with
  | false => simp
  | true =>
   by_cases h1 : b.toList = []
   ·rw [decide_eq_true h1]; simp [h1]
   ·rw [decide_eq_false h1]
    by_cases h2 : b.toList = c.toList
    ·rw [decide_eq_true h2]
     rw [if_pos rfl, if_pos rfl, if_neg h1, if_pos h2]; simp
    ·rw [decide_eq_false h2]
     rw [if_pos rfl, if_pos rfl, if_neg h1, if_neg h2]; simp

/-! #### Partition -/
/-- Each one begins where the one before it ends. -/
def chainFrom : S58 → List S58 → Bool
 | _, [] => true
 | p, y :: ys => joinOk p.f0 p.f1 y.f0 y.f1 && chainFrom y ys
def partOk (l : List S58) : Bool :=
 match l with
 | [] => false
 | v :: vs => decide (l.length ≤ 6) && ivOk v.f0 v.f1 && decide (v.f0.toList = []) && decide ((rd_T58 l ((l.length : Int) - 1)).f1.toList = []) && chainFrom v vs
theorem getD_iv {α : Type} {xs : List α} {d : α} {i : Int} {y : α} {ys : List α} (h0 : 0 ≤ i) (h : xs.drop i.toNat = y :: ys) : xs.getD i.toNat d = y ∧ i < xs.length ∧ xs.drop (i + 1).toNat = ys := by
 have h1 : i.toNat < xs.length := by
  by_cases e : i.toNat < xs.length
  ·exact e
  ·rw [List.drop_eq_nil_of_le (by omega)] at h; cases h
 rw [List.drop_eq_getElem_cons h1] at h
 injection h with ha hb
 refine ⟨?_, by omega, ?_⟩
 ·rw [List.getD_eq_getElem?_getD, List.getElem?_eq_getElem h1]; exact ha
 ·rw [show (i + 1).toNat = i.toNat + 1 by omega]; exact hb
theorem bne_nilB (l : List UInt8) : (l != []) = !decide (l = []) := by cases l <;> simp
theorem joinOk_right {a b c d : ByteArray} (h : ivOk c d = false) : joinOk a b c d = false := by
 unfold joinOk; rw [h]; simp
theorem impl_PartitionValid_l0 (xs : List S58) (hx : xs.length ≤ 6) : ∀ (ys : List S58) (i : Int), 1 ≤ i → i ≤ xs.length → xs.drop i.toNat = ys → impl_PartitionValid.l0L xs xs (xs.length : Int) i = some (chainFrom (rd_T58 xs (i - 1)) ys)
 | [], i, h0, h1, hd => by
  have := drop_nil (by omega) h1 hd
  rw [impl_PartitionValid.l0L_eq, if_neg (by omega)]; rfl
 | y :: ys, i, h0, h1, hd => by
  obtain ⟨hr0, hl, hd'⟩ := getD_iv (d := z58) (by omega) hd
  have hr : rd_T58 xs i = y := hr0
  have ih := impl_PartitionValid_l0 xs hx ys (i + 1) (by omega) (by omega) hd'
  rw [show i + 1 - 1 = i by omega, hr] at ih
  rw [impl_PartitionValid.l0L_eq, if_pos hl, if_pos (by omega), if_pos hl, hr, impl_IntervalValid_f, Option.bind_some, w64 (n := i - 1) (by omega) (by omega), w64 (n := i + 1) (by omega) (by omega), if_pos (show i > 0 by omega), if_pos (show 0 ≤ i - 1 by omega), if_pos (show i - 1 < (xs.length : Int) by omega), impl_IntervalJoin_f, Option.bind_some, ih]
  simp only [chainFrom]
  cases hv : ivOk y.f0 y.f1 with
  | false => rw [joinOk_right hv]; simp
  | true => cases joinOk (rd_T58 xs (i - 1)).f0 (rd_T58 xs (i - 1)).f1 y.f0 y.f1 <;> simp
theorem impl_PartitionValid_f (xs : List S58) : impl_PartitionValid.fL xs = some (partOk xs) := by
 have jt : impl_PartitionValid.j0L xs true = some false := by rw [impl_PartitionValid.j0L_eq, if_pos rfl]
 rw [impl_PartitionValid.fL_eq, jt]
 unfold partOk
 cases xs with
 | nil => rfl
 | cons v vs =>
  have hlen : ((v :: vs).length : Int) = (vs.length : Int) + 1 := by simp
  have hv : rd_T58 (v :: vs) 0 = v := rfl
  rw [if_neg (by omega)]
  by_cases h6 : ((v :: vs).length : Int) > 6
  ·rw [if_pos h6]
   dsimp only
   rw [decide_eq_false (by omega)]; simp
  ·rw [if_neg h6, if_pos (by omega), hv]
   dsimp only
   rw [decide_eq_true (p := (v :: vs).length ≤ 6) (by omega)]
   by_cases h1 : v.f0.toList = []
   ·rw [if_pos h1, decide_eq_true h1, w64 (by omega) (by omega), if_pos (by omega), if_pos (by omega), bne_nilB]
    by_cases h2 : (rd_T58 (v :: vs) (((v :: vs).length : Int) - 1)).f1.toList = []
    ·rw [decide_eq_true h2, Bool.not_true, impl_PartitionValid.j0L_eq, if_neg (by simp), impl_PartitionValid.l0L_eq, if_pos (by omega), if_pos (by omega), if_pos (by omega), hv, impl_IntervalValid_f, Option.bind_some, if_neg (show ¬ ((0 : Int) > 0) by omega), w64 (n := 0 + 1) (by omega) (by omega),
      impl_PartitionValid_l0 (v :: vs) (by omega) vs (0 + 1) (by omega) (by omega) (by simp)]
     rw [show (0 : Int) + 1 - 1 = 0 by omega, hv]
     cases ivOk v.f0 v.f1 <;> simp
    ·rw [decide_eq_false h2, Bool.not_false, jt]; simp
   ·rw [if_neg h1, decide_eq_false h1]; simp

/-! #### Plan -/
theorem impl_shardNumber_f (a : Int) : impl_shardNumber.f a = some (decide (0 ≤ a ∧ a ≤ 7)) := by
 unfold impl_shardNumber.f
 by_cases h : a ≥ 0
 ·rw [if_pos h]; congr 1; rw [decide_eq_decide]; omega
 ·rw [if_neg h]; congr 1; rw [eq_comm, decide_eq_false_iff_not]; omega
/-! #### Routes -/
/-- The numbers are those of shards, and differ from those before. -/
def numsFrom : List Int → List S60 → Bool
 | _, [] => true
 | pre, y :: ys => decide (0 ≤ y.f0 ∧ y.f0 ≤ 7) && !decide (y.f0 ∈ pre) && numsFrom (pre ++ [y.f0]) ys
def spans (l : List S60) : List S58 := l.map fun r => ⟨r.f1.f0, r.f1.f1⟩
def routesOk (l : List S60) : Bool := decide (l.length ≤ 6) && partOk (spans l) && numsFrom [] l
theorem impl_spansOf_l0 (xs : List S60) (hx : xs.length ≤ 1000000000000) : ∀ (ys : List S60) (i : Int) (out : List S58), 0 ≤ i → i ≤ xs.length → (out.length : Int) ≤ i → xs.drop i.toNat = ys → impl_spansOf.l0L out xs (xs.length : Int) i = some (out ++ spans ys)
 | [], i, out, h0, h1, hl, hd => by
  have := drop_nil h0 h1 hd
  rw [impl_spansOf.l0L_eq, if_neg (by omega)]; simp [spans]
 | y :: ys, i, out, h0, h1, ho, hd => by
  obtain ⟨hr0, hl, hd'⟩ := getD_iv (d := z60) h0 hd
  have hr : rd_T60 xs i = y := hr0
  rw [impl_spansOf.l0L_eq, if_pos hl, if_pos h0, if_pos hl, if_pos (by omega), hr, w64 (by omega) (by omega), impl_spansOf_l0 xs hx ys (i + 1) _ (by omega) (by omega) (by simp; omega) hd']
  simp [spans]
theorem impl_spansOf_f (xs : List S60) (hx : xs.length ≤ 1000000000000) : impl_spansOf.fL xs = some (spans xs) := by
 rw [impl_spansOf.fL_eq, impl_spansOf_l0 xs hx xs 0 [] (by omega) (by omega) (by simp) (by simp)]; simp
/-- Where a number is first, from an index on; -1 if nowhere. -/
def placeFrom (n : Int) : List S60 → Int → Int
 | [], _ => -1
 | y :: ys, i => if y.f0 = n then i else placeFrom n ys (i + 1)
theorem impl_routePlace_l0 (xs : List S60) (n : Int) (hx : xs.length ≤ 1000000000000) : ∀ (ys : List S60) (i : Int), 0 ≤ i → i ≤ xs.length → xs.drop i.toNat = ys → impl_routePlace.l0L n xs (xs.length : Int) i = some (placeFrom n ys i)
 | [], i, h0, h1, hd => by
  have := drop_nil h0 h1 hd
  rw [impl_routePlace.l0L_eq, if_neg (by omega)]; rfl
 | y :: ys, i, h0, h1, hd => by
  obtain ⟨hr0, hl, hd'⟩ := getD_iv (d := z60) h0 hd
  have hr : rd_T60 xs i = y := hr0
  rw [impl_routePlace.l0L_eq, if_pos hl, if_pos h0, if_pos hl, hr, w64 (by omega) (by omega)]
  simp only [placeFrom]
  by_cases e : y.f0 = n
  ·rw [if_pos e, if_pos e]
  ·rw [if_neg e, if_neg e]; exact impl_routePlace_l0 xs n hx ys (i + 1) (by omega) (by omega) hd'
theorem impl_routePlace_f (xs : List S60) (n : Int) (hx : xs.length ≤ 1000000000000) : impl_routePlace.fL xs n = some (placeFrom n xs 0) := by
 rw [impl_routePlace.fL_eq]; exact impl_routePlace_l0 xs n hx xs 0 (by omega) (by omega) (by simp)
theorem placeFrom_ge (n : Int) : ∀ (ys : List S60) (i : Int), 0 ≤ i → (placeFrom n ys i ≥ 0 ↔ n ∈ ys.map fun r => r.f0)
 | [], i, _ => by simp [placeFrom]
 | y :: ys, i, h => by
  have ih := placeFrom_ge n ys (i + 1) (by omega)
  simp only [placeFrom, List.map_cons, List.mem_cons]
  by_cases e : y.f0 = n
  ·rw [if_pos e]; simp [e, h]
  ·rw [if_neg e, ih]
   have e' : ¬ n = y.f0 := fun h => e h.symm
   simp [e']
theorem impl_numbersDiffer_l0 (xs : List S60) (hx : xs.length ≤ 1000000000000) : ∀ (ys : List S60) (i : Int), 0 ≤ i → i ≤ xs.length → xs.drop i.toNat = ys → impl_numbersDiffer.l0L xs xs (xs.length : Int) i = some (numsFrom ((xs.take i.toNat).map fun r => r.f0) ys)
 | [], i, h0, h1, hd => by
  have := drop_nil h0 h1 hd
  rw [impl_numbersDiffer.l0L_eq, if_neg (by omega)]; rfl
 | y :: ys, i, h0, h1, hd => by
  obtain ⟨hr0, hl, hd'⟩ := getD_iv (d := z60) h0 hd
  have hr : rd_T60 xs i = y := hr0
  have htk : xs.take (i.toNat + 1) = xs.take i.toNat ++ [y] := by
   have h2 : i.toNat < xs.length := by omega
   rw [List.take_succ_eq_append_getElem h2]
   have := hr0
   rw [List.getD_eq_getElem?_getD, List.getElem?_eq_getElem h2] at this
   simp at this
   rw [this]
  rw [impl_numbersDiffer.l0L_eq, if_pos hl, if_pos h0, if_pos hl, hr, impl_shardNumber_f, Option.bind_some, if_pos h1, impl_routePlace_f _ _ (by rw [List.length_take]; omega), Option.bind_some, w64 (by omega) (by omega),
   impl_numbersDiffer_l0 xs hx ys (i + 1) (by omega) (by omega) hd', show (i + 1).toNat = i.toNat + 1 by omega, htk]
  simp only [numsFrom, List.map_append, List.map_cons, List.map_nil]
  have hp := placeFrom_ge y.f0 (xs.take i.toNat) 0 (by omega)
  by_cases h2 : 0 ≤ y.f0 ∧ y.f0 ≤ 7
  ·rw [decide_eq_true h2, if_pos rfl]
   by_cases h3 : y.f0 ∈ (xs.take i.toNat).map fun r => r.f0
   ·rw [if_pos (hp.2 h3), decide_eq_true h3]; rfl
   ·rw [if_neg (fun e => h3 (hp.1 e)), decide_eq_false h3]; rfl
  ·rw [decide_eq_false h2, if_neg (by simp)]; rfl
theorem impl_numbersDiffer_f (xs : List S60) (hx : xs.length ≤ 1000000000000) : impl_numbersDiffer.fL xs = some (numsFrom [] xs) := by
 rw [impl_numbersDiffer.fL_eq, impl_numbersDiffer_l0 xs hx xs 0 (by omega) (by omega) (by simp)]; simp
theorem impl_RoutesValid_f (xs : List S60) : impl_RoutesValid.fL xs = some (routesOk xs) := by
 rw [impl_RoutesValid.fL_eq]
 unfold routesOk
 by_cases h : (xs.length : Int) ≤ 6
 ·rw [if_pos h, impl_spansOf_f xs (by omega), Option.bind_some, impl_PartitionValid_f, Option.bind_some, impl_numbersDiffer_f xs (by omega), Option.bind_some, decide_eq_true (by omega)]
  cases partOk (spans xs) <;> rfl
 ·rw [if_neg h, decide_eq_false (by omega)]; rfl

/-! #### spec_Interval -/
theorem less_a (hi : ByteArray) (h : keyOk (bs hi) = true) : (Op.bytesLess [] hi.toList && (hi.toList != [97])) = Op.bytesLess [97] hi.toList := by
 have hl : letters (bs hi) = true := keyOk_letters h
 have hn := (keyOk_len h).1
 have hb : bs hi = hi.toList.map fun b => (b.toNat : Int) := by rw [toList_data]; rfl
 rw [hb] at hl hn
 cases e : hi.toList with
 | nil => rw [e] at hn; simp at hn
 | cons b l =>
  rw [e] at hl
  obtain ⟨h1, _⟩ := letters_cons hl
  have h1 : 97 ≤ (b.toNat : Int) ∧ (b.toNat : Int) ≤ 122 := h1
  simp only [Op.bytesLess]
  by_cases hb97 : b = 97
  ·subst hb97
   cases l with
   | nil => simp [Op.bytesLess]
   | cons c l => simp [Op.bytesLess]
  ·have hlt : (97 : UInt8) < b := by
    rw [UInt8.lt_iff_toNat_lt]
    have : b.toNat ≠ (97 : UInt8).toNat := fun e => hb97 (UInt8.toNat_inj.1 e)
    have e97 : (97 : UInt8).toNat = 97 := rfl
    omega
   simp [hlt, hb97]
theorem spec_IntervalValid_f (lo hi : ByteArray) : spec_IntervalValid.fL lo hi = some (ivOk lo hi) := by
 rw [spec_IntervalValid.fL_eq, spec_KeyValid_f, spec_KeyValid_f]
 simp only [Option.bind_some]
 unfold ivOk low
 by_cases h1 : lo.toList = []
 ·rw [if_pos h1, if_pos h1, decide_eq_true h1]
  by_cases h2 : hi.toList = []
  ·rw [if_pos h2, decide_eq_true h2]; rfl
  ·rw [if_neg h2, decide_eq_false h2]
   cases hk : keyOk (bs hi) with
   | false => simp
   | true =>
    have e97 : (⟨#[97]⟩ : ByteArray).toList = [97] := by rw [toList_data]
    rw [h1, e97, ← less_a hi hk]
    cases Op.bytesLess [] hi.toList <;> simp
 ·rw [if_neg h1, if_neg h1, decide_eq_false h1]
  by_cases h2 : hi.toList = []
  ·rw [if_pos h2, decide_eq_true h2]
   cases keyOk (bs lo) <;> simp
  ·rw [if_neg h2, decide_eq_false h2]
   cases keyOk (bs lo) <;> cases keyOk (bs hi) <;> cases Op.bytesLess lo.toList hi.toList <;> simp

/-! #### spec_IntervalJoin -/
theorem spec_IntervalJoin_f (a b c d : ByteArray) : spec_IntervalJoin.fL a b c d = some (if joinOk a b c d = true then (a, d, true) else ((⟨#[]⟩ : ByteArray), (⟨#[]⟩ : ByteArray), false)) := by
 rw [spec_IntervalJoin.fL_eq, spec_IntervalValid_f, spec_IntervalValid_f]
 simp only [Option.bind_some]
 unfold joinOk
 cases ivOk a b with
 | false => simp
 | true =>
  cases ivOk c d with
  | false => simp
  | true =>
   by_cases h1 : b.toList = []
   ·rw [decide_eq_true h1]; simp [h1]
   ·rw [decide_eq_false h1]
    by_cases h2 : b.toList = c.toList
    ·rw [decide_eq_true h2]
     rw [if_pos rfl, if_pos rfl, if_neg h1, if_pos h2]; simp
    ·rw [decide_eq_false h2]
     rw [if_pos rfl, if_pos rfl, if_neg h1, if_neg h2]; simp

/-! #### spec_Partition -/
theorem spec_PartitionValid_l0 (xs : List S58) (hx : xs.length ≤ 6) : ∀ (ys : List S58) (i : Int), 1 ≤ i → i ≤ xs.length → xs.drop i.toNat = ys → spec_PartitionValid.l0L xs i = some (chainFrom (rd_T58 xs (i - 1)) ys)
 | [], i, h0, h1, hd => by
  have := drop_nil (by omega) h1 hd
  rw [spec_PartitionValid.l0L_eq, if_neg (by omega)]; rfl
 | y :: ys, i, h0, h1, hd => by
  obtain ⟨hr0, hl, hd'⟩ := getD_iv (d := z58) (by omega) hd
  have hr : rd_T58 xs i = y := hr0
  have ih := spec_PartitionValid_l0 xs hx ys (i + 1) (by omega) (by omega) hd'
  rw [show i + 1 - 1 = i by omega, hr] at ih
  rw [spec_PartitionValid.l0L_eq, if_pos hl, w64 (n := i - 1) (by omega) (by omega), w64 (n := i + 1) (by omega) (by omega), if_pos (by omega), if_pos (by omega), if_pos (by omega), hr, spec_IntervalJoin_f, Option.bind_some, ih]
  simp only [chainFrom]
  cases joinOk (rd_T58 xs (i - 1)).f0 (rd_T58 xs (i - 1)).f1 y.f0 y.f1 <;> simp
theorem spec_PartitionValid_f (xs : List S58) : spec_PartitionValid.fL xs = some (partOk xs) := by
 have jt : spec_PartitionValid.j0L xs true = some false := by rw [spec_PartitionValid.j0L_eq, if_pos rfl]
 rw [spec_PartitionValid.fL_eq, jt, spec_l1In_f, Option.bind_some]
 unfold partOk
 cases xs with
 | nil => rfl
 | cons v vs =>
  have hlen : ((v :: vs).length : Int) = (vs.length : Int) + 1 := by simp
  have hv : rd_T58 (v :: vs) 0 = v := rfl
  by_cases h6 : ((v :: vs).length : Int) > 6
  ·rw [if_neg (by simp only [decide_eq_true_eq]; omega)]
   dsimp only
   rw [decide_eq_false (by omega)]; simp
  ·rw [if_pos (by simp only [decide_eq_true_eq]; omega), if_pos (by omega), hv, spec_IntervalValid_f, Option.bind_some]
   dsimp only
   rw [decide_eq_true (p := (v :: vs).length ≤ 6) (by omega)]
   cases hi : ivOk v.f0 v.f1 with
   | false => simp
   | true =>
    by_cases h1 : v.f0.toList = []
    ·rw [if_pos rfl, if_pos h1, decide_eq_true h1, w64 (by omega) (by omega), if_pos (by omega), if_pos (by omega), bne_nilB]
     by_cases h2 : (rd_T58 (v :: vs) (((v :: vs).length : Int) - 1)).f1.toList = []
     ·rw [decide_eq_true h2, Bool.not_true, spec_PartitionValid.j0L_eq, if_neg (by simp), spec_PartitionValid_l0 (v :: vs) (by omega) vs 1 (by omega) (by omega) (by simp)]
      rw [show (1 : Int) - 1 = 0 by omega, hv]; simp
     ·rw [decide_eq_false h2, Bool.not_false, jt]; simp
    ·rw [if_pos rfl, if_neg h1, decide_eq_false h1]; simp

/-! #### spec_Routes -/
theorem spec_RoutesValid_l1 (xs : List S60) (out : List S58) (ho : out.length ≤ 100) (hx : xs.length ≤ 1000000000000) (k : Int) (y : S60) (h0 : 0 ≤ k) (hk : k < xs.length) (hy : rd_T60 xs k = y) : ∀ (zs : List S60) (j : Int), 0 ≤ j → j ≤ k → (xs.take k.toNat).drop j.toNat = zs → spec_RoutesValid.l1L xs out k j = if y.f0 ∈ zs.map (fun r => r.f0) then some false else spec_RoutesValid.l0L xs (out ++ [⟨y.f1.f0, y.f1.f1⟩]) (k + 1)
 | [], j, h1, h2, hd => by
  have hl : (xs.take k.toNat).length = k.toNat := by rw [List.length_take]; omega
  have := drop_nil h1 (by omega) hd
  rw [spec_RoutesValid.l1L_eq, if_neg (by omega), if_pos h0, if_pos hk, if_pos (by omega), hy, w64 (by omega) (by omega), if_neg (by simp)]
 | z :: zs, j, h1, h2, hd => by
  have hl : (xs.take k.toNat).length = k.toNat := by rw [List.length_take]; omega
  obtain ⟨hr, hlt, hd'⟩ := getD_iv (d := z60) h1 hd
  have hr' : rd_T60 xs j = z := by
   rw [← hr]; unfold rd_T60
   rw [List.getD_eq_getElem?_getD, List.getD_eq_getElem?_getD, List.getElem?_take, if_pos (by omega)]
  rw [spec_RoutesValid.l1L_eq, if_pos (by omega), if_pos h1, if_pos (by omega), if_pos h0, if_pos hk, hr', hy, w64 (by omega) (by omega)]
  by_cases e : z.f0 = y.f0
  ·rw [if_pos e, if_pos (by simp [e])]
  ·rw [if_neg e, spec_RoutesValid_l1 xs out ho hx k y h0 hk hy zs (j + 1) (by omega) (by omega) hd']
   have e' : ¬ y.f0 = z.f0 := fun h => e h.symm
   simp [e']
theorem spec_RoutesValid_l0 (xs : List S60) (hx : xs.length ≤ 1000000000000) : ∀ (ys : List S60) (i : Int), 0 ≤ i → i ≤ 6 → i ≤ xs.length → xs.drop i.toNat = ys → spec_RoutesValid.l0L xs (spans (xs.take i.toNat)) i = some (decide (xs.length ≤ 6) && partOk (spans xs) && numsFrom ((xs.take i.toNat).map fun r => r.f0) ys)
 | [], i, h0, h6, h1, hd => by
  have := drop_nil h0 h1 hd
  rw [spec_RoutesValid.l0L_eq, if_neg (by omega), List.take_of_length_le (by omega), spec_PartitionValid_f, Option.bind_some, decide_eq_true (by omega)]; simp [numsFrom]
 | y :: ys, i, h0, h6, h1, hd => by
  obtain ⟨hr0, hl, hd'⟩ := getD_iv (d := z60) h0 hd
  have hr : rd_T60 xs i = y := hr0
  have jt : spec_RoutesValid.j1L xs (spans (xs.take i.toNat)) i true = some false := by rw [spec_RoutesValid.j1L_eq, if_pos rfl]
  have htk : xs.take (i.toNat + 1) = xs.take i.toNat ++ [y] := by
   have h2 : i.toNat < xs.length := by omega
   rw [List.take_succ_eq_append_getElem h2]
   have := hr0
   rw [List.getD_eq_getElem?_getD, List.getElem?_eq_getElem h2] at this
   simp at this
   rw [this]
  rw [spec_RoutesValid.l0L_eq, if_pos hl]
  by_cases c : i ≥ 6
  ·rw [if_pos c, jt, decide_eq_false (by omega)]; rfl
  ·rw [if_neg c, if_pos h0, hr, spec_l1In_f, Option.bind_some]
   by_cases h2 : 0 ≤ y.f0 ∧ y.f0 ≤ 7
   ·have e2 : spans (xs.take i.toNat) ++ [⟨y.f1.f0, y.f1.f1⟩] = spans (xs.take (i.toNat + 1)) := by rw [htk]; simp [spans]
    have ih := spec_RoutesValid_l0 xs hx ys (i + 1) (by omega) (by omega) (by omega) hd'
    rw [show (i + 1).toNat = i.toNat + 1 by omega] at ih
    rw [decide_eq_true h2, Bool.not_true, spec_RoutesValid.j1L_eq, if_neg (by simp), spec_RoutesValid_l1 xs (spans (xs.take i.toNat)) (by simp [spans]; omega) hx i y h0 hl hr (xs.take i.toNat) 0 (by omega) h0 (by simp), e2, ih, htk]
    simp only [numsFrom, List.map_append, List.map_cons, List.map_nil]
    by_cases h3 : y.f0 ∈ (xs.take i.toNat).map fun r => r.f0
    ·rw [if_pos h3, decide_eq_true h3]; simp
    ·rw [if_neg h3, decide_eq_false h3, decide_eq_true h2]; simp
   ·rw [decide_eq_false h2, Bool.not_false, jt]
    simp only [numsFrom]
    rw [decide_eq_false h2]; simp
theorem spec_RoutesValid_f (xs : List S60) (hx : xs.length ≤ 1000000000000) : spec_RoutesValid.fL xs = some (routesOk xs) := by
 have h := spec_RoutesValid_l0 xs hx xs 0 (by omega) (by omega) (by omega) (by simp)
 rw [spec_RoutesValid.fL_eq]
 exact h

/-! #### partmem -/
theorem chain_mem : ∀ (vs : List S58) (v : S58), chainFrom v vs = true → ∀ w ∈ vs, ivOk w.f0 w.f1 = true
 | [], v, _, w, hw => by cases hw
 | x :: xs, v, h, w, hw => by
  simp only [chainFrom, joinOk, Bool.and_eq_true] at h
  rcases List.mem_cons.1 hw with rfl | hw
  ·exact h.1.1.1.2
  ·exact chain_mem xs x h.2 w hw
theorem partOk_mem {ps : List S58} (h : partOk ps = true) : ∀ w ∈ ps, ivOk w.f0 w.f1 = true := by
 cases ps with
 | nil => cases h
 | cons v vs =>
  simp only [partOk, Bool.and_eq_true, decide_eq_true_eq] at h
  intro w hw
  rcases List.mem_cons.1 hw with rfl | hw
  ·exact h.1.1.1.2
  ·exact chain_mem vs v h.2 w hw

/-! #### RoutesText -/
def rword (p : S60) : List UInt8 := Lib.itoa p.f0 ++ 58 :: (p.f1.f0.data.toList ++ 45 :: p.f1.f1.data.toList)
def rtext (l : List S60) : ByteArray := if routesOk l = true then ⟨(Lib.join (l.map rword) [32]).toArray⟩ else ⟨#[]⟩
theorem size_arr (l : List UInt8) : (⟨l.toArray⟩ : ByteArray).size = l.length := by simp [ByteArray.size]
theorem numsFrom_small : ∀ (l : List S60) (p : List Int), numsFrom p l = true → ∀ y ∈ l, 0 ≤ y.f0 ∧ y.f0 ≤ 7
 | [], _, _, y, hy => by cases hy
 | x :: l, p, h, y, hy => by
  simp only [numsFrom, Bool.and_eq_true, decide_eq_true_eq] at h
  cases hy with
  | head => exact h.1.1
  | tail _ hy => exact numsFrom_small l _ h.2 y hy
theorem ivOk_small {a b : ByteArray} (h : ivOk a b = true) : a.size ≤ 4 ∧ b.size ≤ 4 := by
 have key : ∀ c : ByteArray, (decide (c.toList = []) || keyOk (bs c)) = true → c.size ≤ 4 := by
  intro c hc
  rw [Bool.or_eq_true, decide_eq_true_eq, toList_nil] at hc
  rcases hc with hc | hc
  ·rw [← bs_length, hc]; simp
  ·unfold keyOk at hc
   rw [Bool.and_eq_true, decide_eq_true_eq, bs_length] at hc
   exact hc.1.2
 unfold ivOk at h
 rw [Bool.and_eq_true, Bool.and_eq_true] at h
 exact ⟨key a h.1.1, key b h.1.2⟩
theorem route_small {l : List S60} (h : routesOk l = true) : l.length ≤ 6 ∧ ∀ y ∈ l, (0 ≤ y.f0 ∧ y.f0 ≤ 7) ∧ y.f1.f0.size ≤ 4 ∧ y.f1.f1.size ≤ 4 := by
 unfold routesOk at h
 rw [Bool.and_eq_true, Bool.and_eq_true, decide_eq_true_eq] at h
 refine ⟨h.1.1, fun y hy => ⟨numsFrom_small l _ h.2 y hy, ?_⟩⟩
 exact ivOk_small (partOk_mem h.1.2 ⟨y.f1.f0, y.f1.f1⟩ (by unfold spans; exact List.mem_map.2 ⟨y, hy, rfl⟩))
theorem spec_RoutesText_l0 (xs : List S60) (hok : routesOk xs = true) : ∀ (ys : List S60) (i : Int) (out : ByteArray), 0 ≤ i → i ≤ xs.length → (out.size : Int) ≤ 2000 * i → xs.drop i.toNat = ys →
  spec_RoutesText.l0L xs out i = some ⟨(out.data.toList ++ (if i = 0 then Lib.join (ys.map rword) [32] else Lib.joinTail [32] (ys.map rword))).toArray⟩
 | [], i, out, h0, h1, ho, hd => by
  have := drop_nil h0 h1 hd
  rw [spec_RoutesText.l0L_eq, if_neg (by omega), spec_RoutesText.j1L_eq, if_neg Bool.false_ne_true]
  have : (if i = 0 then Lib.join (([] : List S60).map rword) [32] else Lib.joinTail [32] (([] : List S60).map rword)) = [] := by split <;> rfl
  rw [this, List.append_nil]
 | y :: ys, i, out, h0, h1, ho, hd => by
  obtain ⟨h48, hsm⟩ := route_small hok
  obtain ⟨hr0, hl, hd'⟩ := getD_iv (d := z60) h0 hd
  have hr : rd_T60 xs i = y := hr0
  obtain ⟨hn, hA, hB⟩ := hsm y (List.mem_of_mem_drop (i := i.toNat) (by rw [hd]; exact List.mem_cons_self))
  have hi := itoa_len hn.1 (show y.f0 ≤ 999 by omega)
  have ih := fun (o : ByteArray) (h : (o.size : Int) ≤ 2000 * (i + 1)) => spec_RoutesText_l0 xs hok ys (i + 1) o (by omega) (by omega) h hd'
  have z : ∀ (a b : ByteArray), (a ++ b).size = a.size + b.size := fun a b => ByteArray.size_append
  have s32 : (⟨#[32]⟩ : ByteArray).size = 1 := rfl
  have s58 : (⟨#[58]⟩ : ByteArray).size = 1 := rfl
  have s45 : (⟨#[45]⟩ : ByteArray).size = 1 := rfl
  have sI := size_arr (Lib.itoa y.f0)
  rw [spec_RoutesText.l0L_eq, if_pos hl, spec_RoutesValid_f xs (by omega), Option.bind_some, hok, spec_RoutesText.j1L_eq, if_pos rfl, hr, spec_l7Text_f y.f0 hn.1 (by omega), w64 (by omega) (by omega)]
  by_cases c : i > 0
  ·rw [if_pos c, if_pos (by omega), if_pos h0, if_pos hl, Option.bind_some, if_pos (by simp only [z, s32, sI]; omega), if_pos (by simp only [z, s32, sI]; omega), if_pos (by simp only [z, s32, s58, sI]; omega), if_pos (by simp only [z, s32, s58, sI]; omega), if_pos (by simp only [z, s32, s58, s45, sI]; omega), ih _ (by simp only [z, s32, s58, s45, sI]; omega), if_neg (by omega), if_neg (by omega)]
   simp [Lib.joinTail, rword]
  ·rw [if_neg c, if_pos h0, if_pos hl, Option.bind_some, if_pos (by simp only [z, sI]; omega), if_pos (by simp only [z, sI]; omega), if_pos (by simp only [z, s58, sI]; omega), if_pos (by simp only [z, s58, sI]; omega), if_pos (by simp only [z, s58, s45, sI]; omega), ih _ (by simp only [z, s58, s45, sI]; omega), if_neg (by omega), if_pos (by omega), List.map_cons, Lib.join_cons]
   simp [rword]
theorem spec_RoutesText_f (xs : List S60) (hx : xs.length ≤ 1000000000000) : spec_RoutesText.fL xs = some (rtext xs) := by
 rw [spec_RoutesText.fL_eq]
 unfold rtext
 by_cases h : routesOk xs = true
 ·rw [if_pos h, spec_RoutesText_l0 xs h xs 0 _ (by omega) (by omega) (by show ((0 : Nat) : Int) ≤ _; omega) (by simp), if_pos rfl]; rfl
 ·rw [if_neg h, spec_RoutesText.l0L_eq]
  by_cases c : (0 : Int) < xs.length
  ·rw [if_pos c, spec_RoutesValid_f xs hx, Option.bind_some, spec_RoutesText.j1L_eq, if_neg h]
  ·rw [if_neg c, spec_RoutesText.j1L_eq, if_neg Bool.false_ne_true]
theorem impl_RoutesText_l0 (xs : List S60) (hok : routesOk xs = true) : ∀ (ys : List S60) (i : Int) (a : List ByteArray), 0 ≤ i → i ≤ xs.length → (a.length : Int) ≤ i → (∀ x ∈ a, x.size ≤ 2000) → xs.drop i.toNat = ys →
  impl_RoutesText.l0L a xs (xs.length : Int) i = some ⟨(Lib.join (a.map (·.data.toList) ++ ys.map rword) [32]).toArray⟩
 | [], i, a, h0, h1, ha, hs, hd => by
  have := drop_nil h0 h1 hd
  obtain ⟨h48, hsm⟩ := route_small hok
  rw [impl_RoutesText.l0L_eq, if_neg (by omega), strings_Join_e a 2000 (by omega) (by omega) hs, Option.bind_some, List.map_nil, List.append_nil]
 | y :: ys, i, a, h0, h1, ha, hs, hd => by
  obtain ⟨h48, hsm⟩ := route_small hok
  obtain ⟨hr0, hl, hd'⟩ := getD_iv (d := z60) h0 hd
  have hr : rd_T60 xs i = y := hr0
  obtain ⟨hn, hA, hB⟩ := hsm y (List.mem_of_mem_drop (i := i.toNat) (by rw [hd]; exact List.mem_cons_self))
  have hi := itoa_len hn.1 (show y.f0 ≤ 999 by omega)
  have z : ∀ (a b : ByteArray), (a ++ b).size = a.size + b.size := fun a b => ByteArray.size_append
  have s58 : (⟨#[58]⟩ : ByteArray).size = 1 := rfl
  have s45 : (⟨#[45]⟩ : ByteArray).size = 1 := rfl
  have sI := size_arr (Lib.itoa y.f0)
  have ih := fun (q : ByteArray) (hq : q.size ≤ 2000) => impl_RoutesText_l0 xs hok ys (i + 1) (a ++ [q]) (by omega) (by omega) (by simp; omega) (fun x hx => by
   rcases List.mem_append.1 hx with hx | hx
   ·exact hs x hx
   ·rw [List.mem_singleton.1 hx]; exact hq) hd'
  rw [impl_RoutesText.l0L_eq, if_pos hl, if_pos h0, if_pos hl, hr, strconv_Itoa_e hn.1 (by omega), Option.bind_some, if_pos (by simp only [sI]; omega), if_pos (by simp only [z, s58, sI]; omega), if_pos (by simp only [z, s58, sI]; omega), if_pos (by simp only [z, s58, s45, sI]; omega), if_pos (by omega), w64 (by omega) (by omega), ih _ (by simp only [z, s58, s45, sI]; omega)]
  simp [rword]
theorem impl_RoutesText_f (xs : List S60) : impl_RoutesText.fL xs = some (rtext xs) := by
 rw [impl_RoutesText.fL_eq, impl_RoutesValid_f, Option.bind_some]
 unfold rtext
 by_cases h : routesOk xs = true
 ·rw [if_pos h, if_pos h, impl_RoutesText_l0 xs h xs 0 [] (by omega) (by omega) (by simp) (by simp) (by simp)]; rfl
 ·rw [if_neg h, if_neg h]

/-! #### ReadRoutes -/
theorem iv_letters {a b : ByteArray} (h : ivOk a b = true) : (∀ x ∈ a.data.toList, 97 ≤ x.toNat ∧ x.toNat ≤ 122) ∧ (∀ x ∈ b.data.toList, 97 ≤ x.toNat ∧ x.toNat ≤ 122) := by
 have key : ∀ c : ByteArray, (decide (c.toList = []) || keyOk (bs c)) = true → ∀ x ∈ c.data.toList, 97 ≤ x.toNat ∧ x.toNat ≤ 122 := by
  intro c hc
  rw [Bool.or_eq_true, decide_eq_true_eq, toList_data] at hc
  rcases hc with hc | hc
  ·rw [hc]; intro x hx; cases hx
  ·unfold keyOk at hc
   rw [Bool.and_eq_true] at hc
   exact letters_mem hc.2
 unfold ivOk at h
 rw [Bool.and_eq_true, Bool.and_eq_true] at h
 exact ⟨key a h.1.1, key b h.1.2⟩
theorem route_word {l : List S60} (h : routesOk l = true) : ∀ y ∈ l, (0 ≤ y.f0 ∧ y.f0 ≤ 7) ∧ (∀ x ∈ y.f1.f0.data.toList, 97 ≤ x.toNat ∧ x.toNat ≤ 122) ∧ (∀ x ∈ y.f1.f1.data.toList, 97 ≤ x.toNat ∧ x.toNat ≤ 122) := by
 intro y hy
 have hs := ((route_small h).2 y hy).1
 unfold routesOk at h
 rw [Bool.and_eq_true, Bool.and_eq_true, decide_eq_true_eq] at h
 exact ⟨hs, iv_letters (partOk_mem h.1.2 ⟨y.f1.f0, y.f1.f1⟩ (by unfold spans; exact List.mem_map.2 ⟨y, hy, rfl⟩))⟩
theorem rword_no32 {l : List S60} (h : routesOk l = true) : ∀ x ∈ l.map rword, (32 : UInt8) ∉ x := by
 intro x hx h32
 obtain ⟨y, hy, rfl⟩ := List.mem_map.1 hx
 obtain ⟨hn, ha, hb⟩ := route_word h y hy
 unfold rword at h32
 rcases List.mem_append.1 h32 with h3 | h3
 ·have := (digits_itoa hn.1 _ h3).1
  revert this; decide
 ·rcases List.mem_cons.1 h3 with h3 | h3
  ·revert h3; decide
  ·rcases List.mem_append.1 h3 with h3 | h3
   ·have := (ha _ h3).1
    revert this; decide
   ·rcases List.mem_cons.1 h3 with h3 | h3
    ·revert h3; decide
    ·have := (hb _ h3).1
     revert this; decide
theorem rword_cut {l : List S60} (h : routesOk l = true) (y : S60) (hy : y ∈ l) :
  cut1 58 (rword y) = (Lib.itoa y.f0, y.f1.f0.data.toList ++ 45 :: y.f1.f1.data.toList, true) ∧ cut1 45 (y.f1.f0.data.toList ++ 45 :: y.f1.f1.data.toList) = (y.f1.f0.data.toList, y.f1.f1.data.toList, true) := by
 obtain ⟨hn, ha, hb⟩ := route_word h y hy
 exact ⟨cut1_app 58 _ _ (fun hm => by have := (digits_itoa hn.1 _ hm).2; revert this; decide), cut1_app 45 _ _ (fun hm => by have := (ha _ hm).1; revert this; decide)⟩
/-- The route of a word, as a reader of numbers has it. -/
def rOf (num : ByteArray → Int) (w : List UInt8) : S60 := ⟨num (toBA (cut1 58 w).1), ⟨toBA (cut1 45 (cut1 58 w).2.1).1, toBA (cut1 45 (cut1 58 w).2.1).2.1⟩⟩
theorem round_trip_r {l : List S60} {s : ByteArray} (h : routesOk l = true) (hs : rtext l = s) (num : ByteArray → Int) (hn : ∀ v : Int, 0 ≤ v → v ≤ 999 → num (toBA (Lib.itoa v)) = v) :
  wsp 32 s.data.toList = l.map rword ∧ (wsp 32 s.data.toList).map (rOf num) = l := by
 have h0 : l ≠ [] := fun q => by rw [q] at h; revert h; decide
 have e : wsp 32 s.data.toList = l.map rword := by
  rw [← hs]
  unfold rtext
  rw [if_pos h]
  exact wsp_join 32 _ (by simpa using h0) (rword_no32 h)
 refine ⟨e, ?_⟩
 rw [e, List.map_map]
 have : ∀ y ∈ l, (rOf num ∘ rword) y = y := fun y hy => by
  obtain ⟨h1, _⟩ := route_word h y hy
  obtain ⟨c1, c2⟩ := rword_cut h y hy
  show rOf num (rword y) = y
  unfold rOf
  rw [c1]
  dsimp only
  rw [c2, hn _ h1.1 (by omega), toBA_data, toBA_data]
 rw [List.map_congr_left this, List.map_id']
/-- What is read: the one list whose text it is. -/
def readR (s : ByteArray) : List S60 × Bool :=
 if (wsp 32 s.data.toList).length ≤ 6 ∧ routesOk ((wsp 32 s.data.toList).map (rOf numI)) = true ∧ rtext ((wsp 32 s.data.toList).map (rOf numI)) = s then ((wsp 32 s.data.toList).map (rOf numI), true) else ([], false)
theorem cut1_len1 (c : UInt8) : ∀ l : List UInt8, (cut1 c l).1.length ≤ l.length
 | [] => by simp [cut1]
 | b :: r => by
  have := cut1_len1 c r
  show (if b = c then ([], r, true) else (b :: (cut1 c r).1, (cut1 c r).2.1, (cut1 c r).2.2)).1.length ≤ _
  split
  ·simp
  ·simp; omega
theorem impl_ReadRoutes_l0 (s : ByteArray) (ws : List ByteArray) (hw : ∀ w ∈ ws, w.size ≤ 2000000) (hl : ws.length ≤ 48) : ∀ (ys : List ByteArray) (i : Int) (out : List S60), 0 ≤ i → i ≤ ws.length → (out.length : Int) ≤ i → ws.drop i.toNat = ys →
  impl_ReadRoutes.l0L s out ws (ws.length : Int) i = (let L := out ++ ys.map fun w => rOf numI w.data.toList; if routesOk L = true then (if (rtext L).toList = s.toList then some (L, true) else some ([], false)) else some ([], false))
 | [], i, out, h0, h1, ho, hd => by
  have := drop_nil h0 h1 hd
  rw [impl_ReadRoutes.l0L_eq, if_neg (by omega), impl_RoutesValid_f, Option.bind_some]
  simp only [List.map_nil, List.append_nil]
  by_cases h : routesOk out = true
  ·rw [if_pos h, if_pos h, impl_RoutesText_f, Option.bind_some]
  ·rw [if_neg h, if_neg h]
 | y :: ys, i, out, h0, h1, ho, hd => by
  obtain ⟨hr, hlt, hd'⟩ := strAt_drop h0 hd
  have hy := hw y (List.mem_of_mem_drop (i := i.toNat) (by rw [hd]; exact List.mem_cons_self))
  have hc := cut1_len1 58 y.data.toList
  have hc2 := cut1_len 58 y.data.toList
  rw [size_data] at hc hc2
  have hn : impl_numberOf.f (toBA (cut1 58 y.data.toList).1) = some (numI (toBA (cut1 58 y.data.toList).1)) := by
   unfold impl_numberOf.f
   rw [if_pos (by rw [size_toBA]; omega)]; rfl
  have h2 : strings_Cut.f (toBA (cut1 58 y.data.toList).2.1) (⟨#[45]⟩ : ByteArray) = _ := strings_Cut_e (toBA (cut1 58 y.data.toList).2.1) 45 (by rw [size_toBA]; omega)
  rw [impl_ReadRoutes.l0L_eq, if_pos hlt, if_pos h0, if_pos hlt, hr, strings_Cut_e y 58 hy, Option.bind_some]
  dsimp only
  rw [h2, Option.bind_some]
  dsimp only
  rw [hn, Option.bind_some, if_pos (by omega), w64 (by omega) (by omega), impl_ReadRoutes_l0 s ws hw hl ys (i + 1) _ (by omega) (by omega) (by simp; omega) hd']
  simp only [List.map_cons, List.append_assoc, List.singleton_append]
  rfl
theorem impl_ReadRoutes_f (s : ByteArray) (hs : s.size ≤ 2000000) : impl_ReadRoutes.fL s = some (readR s) := by
 rw [impl_ReadRoutes.fL_eq, strings_Split_e s 32 hs, Option.bind_some, List.length_map]
 unfold readR
 by_cases h48 : (wsp 32 s.data.toList).length ≤ 6
 ·have hw : ∀ w ∈ (wsp 32 s.data.toList).map toBA, w.size ≤ 2000000 := fun w hw => by
   obtain ⟨x, hx, rfl⟩ := List.mem_map.1 hw
   have := (wsp_sizes 32 s.data.toList).1 x hx
   rw [size_data] at this
   rw [size_toBA]; omega
  have e := impl_ReadRoutes_l0 s ((wsp 32 s.data.toList).map toBA) hw (by rw [List.length_map]; omega) _ 0 [] (by omega) (by omega) (by simp) rfl
  have e2 : (((wsp 32 s.data.toList).map toBA).drop (0 : Int).toNat).map (fun w => rOf numI w.data.toList) = (wsp 32 s.data.toList).map (rOf numI) := by
   show ((wsp 32 s.data.toList).map toBA).map _ = _
   rw [List.map_map]; rfl
  rw [e2, List.nil_append, List.length_map] at e
  rw [if_neg (by omega), e]
  dsimp only
  by_cases c1 : routesOk ((wsp 32 s.data.toList).map (rOf numI)) = true
  ·rw [if_pos c1]
   by_cases c2 : rtext ((wsp 32 s.data.toList).map (rOf numI)) = s
   ·rw [if_pos (ba_list.2 c2), if_pos ⟨h48, c1, c2⟩]
   ·rw [if_neg (fun q => c2 (ba_list.1 q)), if_neg (fun q => c2 q.2.2)]
  ·rw [if_neg c1, if_neg (fun q => c1 q.2.1)]
 ·rw [if_pos (by omega), if_neg (fun q => h48 q.1)]
theorem spec_ReadRoutes_l0 (s : ByteArray) (ws : List ByteArray) (hw : ∀ w ∈ ws, w.size ≤ 2000000) (hl : ws.length ≤ 3000000) : ∀ (ys : List ByteArray) (i : Int) (out : List S60), 0 ≤ i → i ≤ ws.length → i ≤ 7 → (out.length : Int) ≤ i → ws.drop i.toNat = ys →
  spec_ReadRoutes.l0L s out ws i = (let L := out ++ (ys.take (7 - i.toNat)).map fun w => rOf numS w.data.toList; if s.toList = [] then some ([], false) else if (rtext L).toList = s.toList then some (L, true) else some ([], false))
 | [], i, out, h0, h1, h49, ho, hd => by
  have := drop_nil h0 h1 hd
  rw [spec_ReadRoutes.l0L_eq, if_neg (by omega), spec_ReadRoutes.j1L_eq, if_neg Bool.false_ne_true]
  simp only [List.take_nil, List.map_nil, List.append_nil]
  by_cases h : s.toList = []
  ·rw [if_pos h, if_pos h]
  ·rw [if_neg h, if_neg h, spec_RoutesText_f _ (by omega), Option.bind_some]
 | y :: ys, i, out, h0, h1, h49, ho, hd => by
  obtain ⟨hr, hlt, hd'⟩ := strAt_drop h0 hd
  have hy := hw y (List.mem_of_mem_drop (i := i.toNat) (by rw [hd]; exact List.mem_cons_self))
  rw [spec_ReadRoutes.l0L_eq, if_pos hlt, spec_ReadRoutes.j1L_eq]
  by_cases c : i ≤ 6
  ·have hc2 := cut1_len 58 y.data.toList
   rw [size_data] at hc2
   obtain ⟨n, hn⟩ := spec_l7Number_all (toBA (cut1 58 y.data.toList).1)
   have hnum : numS (toBA (cut1 58 y.data.toList).1) = n := by unfold numS; rw [hn]; rfl
   have hsp : spec_l41Split.fL y 58 = _ := spec_l41Split_f y hy 58
   have hsp2 : spec_l41Split.fL (toBA (cut1 58 y.data.toList).2.1) 45 = _ := spec_l41Split_f (toBA (cut1 58 y.data.toList).2.1) (by rw [size_toBA]; omega) 45
   rw [if_pos (decide_eq_true c), if_pos h0, if_pos hlt, hr, hsp, Option.bind_some]
   dsimp only
   rw [hsp2, Option.bind_some]
   dsimp only
   rw [hn, Option.bind_some, if_pos (by omega), w64 (by omega) (by omega), spec_ReadRoutes_l0 s ws hw hl ys (i + 1) _ (by omega) (by omega) (by omega) (by simp; omega) hd']
   have e : 7 - i.toNat = (7 - (i + 1).toNat) + 1 := by omega
   rw [e, List.take_succ_cons]
   simp only [List.map_cons, List.append_assoc, List.singleton_append]
   have ep : rOf numS y.data.toList = ⟨n, ⟨toBA (cut1 45 (cut1 58 y.data.toList).2.1).1, toBA (cut1 45 (cut1 58 y.data.toList).2.1).2.1⟩⟩ := by unfold rOf; rw [hnum]
   rw [ep]; rfl
  ·have e : 7 - i.toNat = 0 := by omega
   rw [if_neg (by rw [decide_eq_false c]; simp), e]
   simp only [List.take_zero, List.map_nil, List.append_nil]
   by_cases h : s.toList = []
   ·rw [if_pos h, if_pos h]
   ·rw [if_neg h, if_neg h, spec_RoutesText_f _ (by omega), Option.bind_some]
theorem rtext_ne {l : List S60} (h : routesOk l = true) : ¬ (rtext l).toList = [] := by
 cases l with
 | nil => revert h; decide
 | cons y l =>
  obtain ⟨h1, _⟩ := route_word h y List.mem_cons_self
  obtain ⟨n, hn⟩ := Int.eq_ofNat_of_zero_le h1.1
  have hi : Lib.itoa y.f0 ≠ [] := by rw [hn, itoa_nat]; exact (dec_says n).2.2
  rw [toList_data]
  unfold rtext
  rw [if_pos h]
  show ¬ Lib.join ((y :: l).map rword) [32] = []
  rw [List.map_cons, Lib.join_cons]
  unfold rword
  intro q
  have := (List.append_eq_nil_iff.1 (List.append_eq_nil_iff.1 q).1).1
  exact hi this
theorem spec_ReadRoutes_f (s : ByteArray) (hs : s.size ≤ 2000000) : spec_ReadRoutes.fL s = some (readR s) := by
 have hln := (wsp_sizes 32 s.data.toList).2
 rw [size_data] at hln
 rw [spec_ReadRoutes.fL_eq, spec_l7Words_f s hs, Option.bind_some]
 have hw : ∀ w ∈ (wsp 32 s.data.toList).map toBA, w.size ≤ 2000000 := fun w hw => by
  obtain ⟨x, hx, rfl⟩ := List.mem_map.1 hw
  have := (wsp_sizes 32 s.data.toList).1 x hx
  rw [size_data] at this
  rw [size_toBA]; omega
 have e := spec_ReadRoutes_l0 s ((wsp 32 s.data.toList).map toBA) hw (by rw [List.length_map]; omega) _ 0 [] (by omega) (by omega) (by omega) (by simp) rfl
 have e2 : ((((wsp 32 s.data.toList).map toBA).drop (0 : Int).toNat).take (7 - (0 : Int).toNat)).map (fun w => rOf numS w.data.toList) = ((wsp 32 s.data.toList).take 7).map (rOf numS) := by
  show (((wsp 32 s.data.toList).map toBA).take 7).map _ = _
  rw [← List.map_take, List.map_map]; rfl
 rw [e2, List.nil_append] at e
 rw [e]
 dsimp only
 unfold readR
 by_cases h : s.toList = []
 ·rw [if_pos h, if_neg]
  rintro ⟨b1, b2, b3⟩
  exact rtext_ne b2 (by rw [b3]; exact h)
 ·have valid : ∀ l : List S60, rtext l = s → routesOk l = true := fun l hl => by
   cases hp : routesOk l with
   | true => rfl
   | false =>
    exfalso; apply h
    rw [← hl]; unfold rtext
    rw [if_neg (by rw [hp]; simp), toList_data]
  rw [if_neg h]
  by_cases c : rtext (((wsp 32 s.data.toList).take 7).map (rOf numS)) = s
  ·have a1 := valid _ c
   obtain ⟨b1, _⟩ := round_trip_r a1 c numS numS_itoa
   obtain ⟨_, b2⟩ := round_trip_r a1 c numI numI_itoa
   have b3 : (wsp 32 s.data.toList).length ≤ 6 := by rw [b1, List.length_map]; exact (route_small a1).1
   rw [if_pos (ba_list.2 c), b2, if_pos ⟨b3, a1, c⟩]
  ·rw [if_neg (fun q => c (ba_list.1 q)), if_neg]
   rintro ⟨b1, b2, b3⟩
   obtain ⟨_, d⟩ := round_trip_r b2 b3 numS numS_itoa
   rw [List.take_of_length_le (by omega), d] at c
   exact c b3
theorem readR_length (s : ByteArray) : (readR s).1.length ≤ 6 := by
 unfold readR
 split
 ·next h => simpa using h.1
 ·simp

/-! #### rtextmore -/
theorem rtext_size (l : List S60) : (rtext l).size ≤ 200000 := by
 unfold rtext
 by_cases h : routesOk l = true
 ·rw [if_pos h]
  obtain ⟨h6, hs⟩ := route_small h
  have hj := join_len (l.map rword) 2000 (fun x hx => by
   obtain ⟨y, hy, rfl⟩ := List.mem_map.1 hx
   obtain ⟨hn, ha, hb⟩ := hs y hy
   have hi := itoa_len hn.1 (show y.f0 ≤ 999 by omega)
   unfold rword
   rw [List.length_append, List.length_cons, List.length_append, List.length_cons, size_data, size_data]
   omega)
  rw [List.length_map] at hj
  rw [size_arr]
  omega
 ·rw [if_neg h]; show 0 ≤ _; omega
theorem readR_says (s : ByteArray) : ((readR s).2 = false → (readR s).1 = []) ∧ ((readR s).2 = true → routesOk (readR s).1 = true ∧ rtext (readR s).1 = s) := by
 unfold readR
 split
 ·next hh => exact ⟨fun q => (by cases q), fun _ => ⟨hh.2.1, hh.2.2⟩⟩
 ·exact ⟨fun _ => rfl, fun q => (by cases q)⟩

/-! #### kfrom -/
/-- How many keys begin with the letters of a place, from a depth on. -/
def kfrom (d : Int) : Int := if d ≥ 4 then 1 else if d = 3 then 27 else if d = 2 then 703 else 18279
theorem kfrom_range (d : Int) : 1 ≤ kfrom d ∧ kfrom d ≤ 18279 := by unfold kfrom; split <;> (try split) <;> (try split) <;> omega

/-! #### spec_l1Weight -/
theorem spec_l1Weight_f (d : Int) (h0 : 0 ≤ d) : spec_l1Weight.f d = some (kfrom (d + 1)) := by
 unfold spec_l1Weight.f kfrom
 by_cases h1 : d = 0
 ·subst h1; rfl
 ·by_cases h2 : d = 1
  ·subst h2; rfl
  ·by_cases h3 : d = 2
   ·subst h3; rfl
   ·rw [if_neg h1, if_neg h2, if_neg h3, if_pos (by omega)]

/-! #### reader -/
theorem spec_l20Open_f (l : List Int) : spec_l20Open.f l = some (l.take 2000, 0) := by
 unfold spec_l20Open.f
 by_cases h : (l.length : Int) > 2000
 ·rw [if_pos h, if_pos (by omega)]
 ·rw [if_neg h, List.take_of_length_le (by omega)]
/-- The bytes of a code. -/
def Code (b : List Int) : Prop := b.length ≤ 2000 ∧ ∀ x ∈ b, 0 ≤ x ∧ x ≤ 255
theorem Code.take {l : List Int} (h : ∀ x ∈ l, (Lit.int .u8 x).wf = true) : Code (l.take 2000) :=
 ⟨by rw [List.length_take]; omega, fun x hx => wf8 (h x (List.mem_of_mem_take hx))⟩
theorem Code.get {b : List Int} (h : Code b) (i : Int) (hi : i.toNat < b.length) : 0 ≤ rd b i ∧ rd b i ≤ 255 := by
 unfold rd
 rw [List.getD_eq_getElem?_getD, List.getElem?_eq_getElem hi]
 exact h.2 _ (List.getElem_mem hi)
theorem xor_range (a b : Int) (h0 : 0 ≤ a) (h1 : a ≤ 4611686018427387903) (h2 : 0 ≤ b) (h3 : b ≤ 4611686018427387903) : 0 ≤ Go.bits .xor .i64 a b ∧ Go.bits .xor .i64 a b ≤ 4611686018427387903 := by
 obtain ⟨x, rfl⟩ := Int.eq_ofNat_of_zero_le h0
 obtain ⟨y, rfl⟩ := Int.eq_ofNat_of_zero_le h2
 have hx : x ^^^ y < 2 ^ 62 := Nat.xor_lt_two_pow (by omega) (by omega)
 have g1 : (BitVec.ofInt 64 (x : Int)).toNat = x := by
  rw [BitVec.ofInt_natCast, BitVec.toNat_ofNat]; exact Nat.mod_eq_of_lt (by omega)
 have g2 : (BitVec.ofInt 64 (y : Int)).toNat = y := by
  rw [BitVec.ofInt_natCast, BitVec.toNat_ofNat]; exact Nat.mod_eq_of_lt (by omega)
 have e : Go.bits .xor .i64 (x : Int) (y : Int) = ((x ^^^ y : Nat) : Int) := by
  show IntKind.i64.wrap ((BitVec.ofInt 64 (x : Int) ^^^ BitVec.ofInt 64 (y : Int)).toNat : Int) = _
  rw [BitVec.toNat_xor, g1, g2, IntKind.wrap_i64]
  omega
 rw [e]
 omega
theorem tmod_range {a n : Int} (h0 : 0 ≤ a) (hn : 1 ≤ n) : 0 ≤ Int.tmod a n ∧ Int.tmod a n < n := by
 rw [Int.tmod_eq_emod_of_nonneg h0]
 exact ⟨Int.emod_nonneg _ (by omega), Int.emod_lt_of_pos _ (by omega)⟩
theorem pick_ok {b : List Int} (hb : Code b) (p n : Int) (h0 : 0 ≤ p) (h1 : p ≤ 1000000000000) (hn : n ≤ 1000000) :
  ∃ v, spec_l20Rd_pick.fL b p n = some (v, p + 1) ∧ 0 ≤ v ∧ (1 ≤ n → v < n) ∧ (n < 1 → v = 0) := by
 rw [spec_l20Rd_pick.fL_eq, spec_l20Rd_pick.j0L_eq, spec_l20Rd_pick.j0L_eq, w64 (n := p + 1) (by omega) (by omega), w64 (n := p + 1 - 1) (by omega) (by omega), show p + 1 - 1 = p by omega]
 by_cases e : n < 1
 ·rw [if_pos e, if_pos rfl]; exact ⟨0, rfl, by omega, fun h => by omega, fun _ => rfl⟩
 ·rw [if_neg e]
  by_cases e0 : (b.length : Int) = 0
  ·rw [if_pos (by simpa using e0)]; exact ⟨0, rfl, by omega, fun h => by omega, fun _ => rfl⟩
  ·rw [if_neg (by simpa using e0)]
   by_cases e1 : p < b.length
   ·have hr := hb.get p (by omega)
    rw [if_pos e1, if_pos h0, if_neg (by omega), w64 (n := rd b p) (by omega) (by omega)]
    have := tmod_range hr.1 (n := n) (by omega)
    exact ⟨_, rfl, this.1, fun _ => this.2, fun h => by omega⟩
   ·have hl := hb.1
    have t1 := tmod_range h0 (n := (b.length : Int)) (by omega)
    have t2 := tmod_range (a := p * 7 + 3) (by omega) (n := (b.length : Int)) (by omega)
    have r1 := hb.get (Int.tmod p b.length) (by omega)
    have r2 := hb.get (Int.tmod (p * 7 + 3) b.length) (by omega)
    have td : Int.tdiv p b.length = p / b.length := Int.tdiv_eq_ediv_of_nonneg h0
    have d0 : 0 ≤ p / (b.length : Int) := Int.ediv_nonneg h0 (by omega)
    have d1 : p / (b.length : Int) ≤ p := Int.ediv_le_self _ h0
    rw [if_neg e1, if_neg e0, w64 (n := p * 7) (by omega) (by omega), w64 (n := p * 7 + 3) (by omega) (by omega), if_pos t1.1, if_pos t1.2, if_pos t2.1, if_pos t2.2, if_neg (by omega)]
    generalize rd b (Int.tmod p b.length) = A at *
    generalize rd b (Int.tmod (p * 7 + 3) b.length) = B at *
    rw [td]
    generalize p / (b.length : Int) = D at *
    rw [w64 (n := A) (by omega) (by omega), w64 (n := B) (by omega) (by omega), w64 (n := D) (by omega) (by omega), w64 (n := A * 131) (by omega) (by omega), w64 (n := B * 1117) (by omega) (by omega), w64 (n := p * 29) (by omega) (by omega), w64 (n := D * 53) (by omega) (by omega),
     w64 (n := A * 131 + B * 1117) (by omega) (by omega), w64 (n := A * 131 + B * 1117 + p * 29) (by omega) (by omega), w64 (n := A * 131 + B * 1117 + p * 29 + D * 53) (by omega) (by omega)]
    generalize hX : A * 131 + B * 1117 + p * 29 + D * 53 = X
    have q0 : 0 ≤ X := by omega
    have q1 : X ≤ 1000000000000000 := by omega
    have e64 : Int.tdiv X 64 = X / 64 := Int.tdiv_eq_ediv_of_nonneg q0
    rw [e64, w64 (n := X / 64) (by omega) (by omega)]
    have hx := xor_range X (X / 64) q0 (by omega) (by omega) (by omega)
    have := tmod_range hx.1 (n := n) (by omega)
    exact ⟨_, rfl, this.1, fun _ => this.2, fun h => by omega⟩

/-! #### lits -/
theorem strOfNums_len (xs : List Int) : (strOfNums xs).size = xs.length := by simp [strOfNums, ByteArray.size]

/-! #### keyAt -/
theorem bs_append (s t : ByteArray) : bs (s ++ t) = bs s ++ bs t := by
 unfold bs; rw [ByteArray.data_append, Array.toList_append, List.map_append]
theorem bs_one (v : Int) (h0 : 0 ≤ v) (h1 : v ≤ 255) : bs (strOfNums [v]) = [v] := by
 unfold bs strOfNums
 simp
 omega
/-- The order of bytes, over the numbers. -/
def ltB : List Int → List Int → Bool
 | [], [] => false
 | [], _ :: _ => true
 | _ :: _, [] => false
 | a :: x, b :: y => decide (a < b) || (decide (a = b) && ltB x y)
theorem bytesLess_ltB : ∀ x y : List UInt8, Op.bytesLess x y = ltB (x.map fun b => (b.toNat : Int)) (y.map fun b => (b.toNat : Int))
 | [], [] => by simp [Op.bytesLess, ltB]
 | [], b :: y => by simp [Op.bytesLess, ltB]
 | a :: x, [] => by simp [Op.bytesLess, ltB]
 | a :: x, b :: y => by
  simp only [Op.bytesLess, ltB, List.map_cons, bytesLess_ltB x y]
  congr 1
  ·rw [decide_eq_decide, UInt8.lt_iff_toNat_lt]; omega
  ·congr 1
   by_cases e : a = b
   ·subst e; simp
   ·have : ¬ (a.toNat : Int) = (b.toNat : Int) := fun h => e (UInt8.toNat_inj.1 (by omega))
    rw [decide_eq_false this]; simpa using e
theorem klt_ltB (a b : ByteArray) : klt a b = ltB (bs a) (bs b) := by
 unfold klt; rw [bytesLess_ltB, toList_data, toList_data]; rfl
/-- The bytes of the key of a rank, from a depth on. -/
def keyAtB : Nat → Int → List Int
 | 0, _ => []
 | n + 1, a => (97 + a / kfrom (4 - (n : Int))) :: (if a % kfrom (4 - (n : Int)) = 0 then [] else keyAtB n (a % kfrom (4 - (n : Int)) - 1))
theorem keyAtB_lt : ∀ (n : Nat) (a b : Int), n < 4 → 0 ≤ a → a < b → ltB (keyAtB (n + 1) a) (keyAtB (n + 1) b) = true
 | n, a, b, hn, h0, h => by
  have hk := kfrom_range (4 - (n : Int))
  generalize hw : kfrom (4 - (n : Int)) = w at hk
  have hq : a / w ≤ b / w := Int.ediv_le_ediv (by omega) (by omega)
  have ea := Int.emod_add_mul_ediv a w
  have eb := Int.emod_add_mul_ediv b w
  have ra := Int.emod_nonneg a (show w ≠ 0 by omega)
  have rb := Int.emod_nonneg b (show w ≠ 0 by omega)
  simp only [keyAtB, hw, ltB, Bool.or_eq_true, decide_eq_true_eq, Bool.and_eq_true]
  by_cases e : a / w < b / w
  ·left; omega
  ·right
   have e' : a / w = b / w := by omega
   refine ⟨by omega, ?_⟩
   rw [e'] at ea
   have hr : a % w < b % w := by omega
   rw [if_neg (show ¬ b % w = 0 by omega)]
   match n with
   | 0 =>
    have : w = 1 := by rw [← hw]; rfl
    have := Int.emod_lt_of_pos b (show 0 < w by omega)
    omega
   | n + 1 =>
    by_cases e0 : a % w = 0
    ·rw [if_pos e0]
     show ltB [] (_ :: _) = true
     rfl
    ·rw [if_neg e0]
     exact keyAtB_lt n _ _ (by omega) (by omega) (by omega)
theorem keyAtB_ok : ∀ (n : Nat) (a : Int), n < 4 → 0 ≤ a → a < 26 * kfrom (4 - (n : Int)) → letters (keyAtB (n + 1) a) = true ∧ 1 ≤ (keyAtB (n + 1) a).length ∧ (keyAtB (n + 1) a).length ≤ n + 1
 | n, a, hn, h0, h => by
  have hk := kfrom_range (4 - (n : Int))
  generalize hw : kfrom (4 - (n : Int)) = w at hk h
  have hq : a / w < 26 := Int.ediv_lt_of_lt_mul (by omega) h
  have hq0 : 0 ≤ a / w := Int.ediv_nonneg h0 (by omega)
  have ra := Int.emod_nonneg a (show w ≠ 0 by omega)
  have rl := Int.emod_lt_of_pos a (show 0 < w by omega)
  simp only [keyAtB, hw, letters, List.all_cons, List.length_cons]
  rw [decide_eq_true (by omega), Bool.true_and]
  by_cases e0 : a % w = 0
  ·rw [if_pos e0]; simp
  ·rw [if_neg e0]
   match n with
   | 0 =>
    have : w = 1 := by rw [← hw]; rfl
    omega
   | n + 1 =>
    have hnext : w ≤ 26 * kfrom (4 - (n : Int)) + 1 := by
     rw [← hw]
     have : n = 0 ∨ n = 1 ∨ n = 2 := by omega
     rcases this with rfl | rfl | rfl <;> simp [kfrom]
    have ih := keyAtB_ok n (a % w - 1) (by omega) (by omega) (by omega)
    exact ⟨ih.1, by omega, by omega⟩
theorem spec_KeyAt_l0 : ∀ (n : Nat) (a : Int) (s : ByteArray) (i : Int), n ≤ 4 → i + n = 4 → 0 ≤ a → a ≤ 1000000 → (n = 0 ∨ a < 26 * kfrom (i + 1)) → s.size ≤ i → ∃ r, spec_KeyAt.l0L a s i = some r ∧ bs r = bs s ++ keyAtB n a
 | 0, a, s, i, hn, hi, ha, ha2, hw, hs => by rw [spec_KeyAt.l0L_eq, if_neg (by omega)]; exact ⟨_, rfl, by simp [keyAtB]⟩
 | n + 1, a, s, i, hn, hi, ha, ha2, hw, hs => by
  have hk := kfrom_range (i + 1)
  have hl : ∀ x : Int, (strOfNums [x]).size = 1 := fun x => by rw [strOfNums_len]; rfl
  have hi2 : i + 1 = 4 - (n : Int) := by omega
  have hw : a < 26 * kfrom (i + 1) := by omega
  rw [spec_KeyAt.l0L_eq, if_pos (by omega)]
  simp only [spec_l1Weight_f i (by omega), Option.bind_some]
  rw [if_neg (by omega), if_pos (by rw [hl]; omega), if_neg (by omega), Int.tmod_eq_emod_of_nonneg ha, Int.tdiv_eq_ediv_of_nonneg ha]
  simp only [keyAtB, ← hi2]
  generalize hwk : kfrom (i + 1) = w at *
  have hq : a / w < 26 := Int.ediv_lt_of_lt_mul (by omega) hw
  have hq0 : 0 ≤ a / w := Int.ediv_nonneg ha (by omega)
  have ra := Int.emod_nonneg a (show w ≠ 0 by omega)
  have rl := Int.emod_lt_of_pos a (show 0 < w by omega)
  rw [w64 (n := a / w) (by omega) (by omega), w64 (n := 97 + a / w) (by omega) (by omega), Int.emod_eq_of_lt (a := 97 + a / w) (by omega) (by omega)]
  by_cases e : a % w = 0
  ·rw [if_pos e, if_pos e]; exact ⟨_, rfl, by rw [bs_append, bs_one _ (by omega) (by omega)]⟩
  ·rw [if_neg e, if_neg e, w64 (n := i + 1) (by omega) (by omega), w64 (n := a % w - 1) (by omega) (by omega)]
   have hnext : n = 0 ∨ a % w - 1 < 26 * kfrom (i + 1 + 1) := by
    by_cases h0 : n = 0
    ·exact .inl h0
    ·right
     have : i = 0 ∨ i = 1 ∨ i = 2 := by omega
     rcases this with rfl | rfl | rfl <;> simp [kfrom] at hwk ⊢ <;> omega
   obtain ⟨r, hr, hb⟩ := spec_KeyAt_l0 n (a % w - 1) (s ++ strOfNums [97 + a / w]) (i + 1) (by omega) (by omega) (by omega) (by omega) hnext (by rw [ByteArray.size_append, hl]; omega)
   exact ⟨r, hr, by rw [hb, bs_append, bs_one _ (by omega) (by omega)]; simp⟩
/-- The key of a rank. -/
noncomputable def keyAt (a : Int) : ByteArray := (spec_KeyAt.fL a).getD (⟨#[]⟩ : ByteArray)
theorem spec_KeyAt_in (a : Int) (h0 : 0 ≤ a) (h1 : a ≤ 475253) : spec_KeyAt.fL a = some (keyAt a) ∧ bs (keyAt a) = keyAtB 4 a := by
 have h : ∃ r, spec_KeyAt.fL a = some r ∧ bs r = keyAtB 4 a := by
  rw [spec_KeyAt.fL_eq, spec_l1In_f, Option.bind_some, decide_eq_true ⟨h0, h1⟩, if_pos rfl]
  obtain ⟨r, hr, hb⟩ := spec_KeyAt_l0 4 a (⟨#[]⟩ : ByteArray) 0 (by omega) (by omega) h0 (by omega) (.inr (by simp [kfrom]; omega)) (by decide)
  exact ⟨r, hr, by rw [hb]; rfl⟩
 obtain ⟨r, hr, hb⟩ := h
 unfold keyAt
 rw [hr]; exact ⟨rfl, hb⟩
theorem keyAt_ok (a : Int) (h0 : 0 ≤ a) (h1 : a ≤ 475253) : keyOk (bs (keyAt a)) = true := by
 have h := keyAtB_ok 3 a (by omega) h0 (by simp [kfrom]; omega)
 rw [(spec_KeyAt_in a h0 h1).2]
 unfold keyOk
 rw [h.1, decide_eq_true ⟨h.2.1, h.2.2⟩]; rfl
theorem keyAt_lt (a b : Int) (h0 : 0 ≤ a) (h : a < b) (h1 : b ≤ 475253) : klt (keyAt a) (keyAt b) = true := by
 rw [klt_ltB, (spec_KeyAt_in a h0 (by omega)).2, (spec_KeyAt_in b (by omega) h1).2]
 exact keyAtB_lt 3 a b (by omega) h0 h
theorem keyAt_a : bs (keyAt 0) = [97] := by
 rw [(spec_KeyAt_in 0 (by omega) (by omega)).2]; decide

/-! #### odd -/
theorem odd_ok {b : List Int} (hb : Code b) (p n : Int) (h0 : 0 ≤ p) (h1 : p ≤ 1000000000000) (hn : n ≤ 1000000) :
  ∃ v q, spec_l20Rd_odd.fL b p n = some (v, q) ∧ p ≤ q ∧ q ≤ p + 1 := by
 rw [spec_l20Rd_odd.fL_eq]
 by_cases e : n > 0
 ·obtain ⟨v, hv, _⟩ := pick_ok hb p n h0 h1 hn
  rw [if_pos e, hv]
  exact ⟨_, _, rfl, by dsimp only; omega, by dsimp only; omega⟩
 ·rw [if_neg e]
  exact ⟨_, _, rfl, by omega, by omega⟩

/-! #### l20Parts -/
def mkParts (lo : ByteArray) : List ByteArray → List S58
 | [] => [⟨lo, (⟨#[]⟩ : ByteArray)⟩]
 | b :: r => ⟨lo, b⟩ :: mkParts b r
theorem mkParts_length : ∀ (ys : List ByteArray) (lo : ByteArray), (mkParts lo ys).length = ys.length + 1
 | [], lo => rfl
 | y :: ys, lo => by simp [mkParts, mkParts_length ys y]
theorem spec_PartitionOf_l0 (xs : List ByteArray) (hx : xs.length ≤ 5) : ∀ (ys : List ByteArray) (pre : List S58) (lo : ByteArray) (i : Int), 0 ≤ i → i ≤ xs.length → (pre.length : Int) = i → xs.drop i.toNat = ys →
  spec_PartitionOf.l0L xs (pre ++ [⟨lo, (⟨#[]⟩ : ByteArray)⟩]) i = if partOk (pre ++ mkParts lo ys) = true then some (pre ++ mkParts lo ys, true) else some ([], false)
 | [], pre, lo, i, h0, h1, hp, hd => by
  have := drop_nil h0 h1 hd
  rw [spec_PartitionOf.l0L_eq, if_neg (by omega), spec_PartitionValid_f, Option.bind_some]; rfl
 | y :: ys, pre, lo, i, h0, h1, hp, hd => by
  obtain ⟨hr, hl, hd'⟩ := rdOf_drop (d := ByteArray.empty) h0 hd
  have hlen : ((pre ++ [(⟨lo, (⟨#[]⟩ : ByteArray)⟩ : S58)]).length : Int) = i + 1 := by simp; omega
  have hrd : rd_T58 (pre ++ [(⟨lo, (⟨#[]⟩ : ByteArray)⟩ : S58)]) i = ⟨lo, (⟨#[]⟩ : ByteArray)⟩ := by
   unfold rd_T58
   rw [List.getD_eq_getElem?_getD, List.getElem?_append_right (by omega), show i.toNat - pre.length = 0 by omega]; rfl
  have hset : (pre ++ [(⟨lo, (⟨#[]⟩ : ByteArray)⟩ : S58)]).set i.toNat ⟨lo, y⟩ = pre ++ [⟨lo, y⟩] := by
   rw [List.set_append_right _ _ (by omega), show i.toNat - pre.length = 0 by omega]; rfl
  rw [spec_PartitionOf.l0L_eq, if_pos hl, if_pos (by omega), if_pos h0, hlen, w64 (n := i + 1 - 1) (by omega) (by omega), show i + 1 - 1 = i by omega, if_pos h0, if_pos (by omega), hr, hrd, hset, Option.bind_some, if_pos (by simp; omega), w64 (by omega) (by omega)]
  have := spec_PartitionOf_l0 xs hx ys (pre ++ [⟨lo, y⟩]) y (i + 1) (by omega) (by omega) (by simp; omega) hd'
  have e : pre ++ [(⟨lo, y⟩ : S58)] ++ mkParts y ys = pre ++ mkParts lo (y :: ys) := by simp [mkParts]
  rw [this, e]
theorem partOk_intro {v : S58} {vs : List S58} (h1 : (v :: vs).length ≤ 6) (h2 : ivOk v.f0 v.f1 = true) (h3 : v.f0.toList = []) (h4 : (rd_T58 (v :: vs) (((v :: vs).length : Int) - 1)).f1.toList = []) (h5 : chainFrom v vs = true) : partOk (v :: vs) = true := by
 simp only [partOk, Bool.and_eq_true, decide_eq_true_eq]
 exact ⟨⟨⟨⟨h1, h2⟩, h3⟩, h4⟩, h5⟩
theorem spec_PartitionOf_f (xs : List ByteArray) (hx : xs.length ≤ 5) : spec_PartitionOf.fL xs = if partOk (mkParts (⟨#[]⟩ : ByteArray) xs) = true then some (mkParts (⟨#[]⟩ : ByteArray) xs, true) else some ([], false) := by
 rw [spec_PartitionOf.fL_eq]
 exact spec_PartitionOf_l0 xs hx xs [] (⟨#[]⟩ : ByteArray) 0 (by omega) (by omega) (by simp) (by simp)
/-- Valid keys that ascend, all greater than one. -/
def ascK : ByteArray → List ByteArray → Prop
 | _, [] => True
 | p, y :: ys => keyOk (bs y) = true ∧ klt p y = true ∧ ascK y ys
theorem keyOk_ne {s : ByteArray} (h : keyOk (bs s) = true) : ¬ s.toList = [] := by
 rw [toList_nil]; intro e
 have := keyOk_len h
 rw [e] at this; simp at this
theorem nil_toList : (⟨#[]⟩ : ByteArray).toList = [] := by rw [toList_nil]; rfl
theorem ivOk_keys {a b : ByteArray} (h1 : keyOk (bs a) = true) (h2 : keyOk (bs b) = true) (h3 : klt a b = true) : ivOk a b = true := by
 unfold ivOk low
 rw [if_neg (keyOk_ne h1), h1, h2]
 unfold klt at h3; rw [h3]; simp
theorem ivOk_up {a : ByteArray} (h1 : keyOk (bs a) = true) : ivOk a (⟨#[]⟩ : ByteArray) = true := by
 unfold ivOk
 rw [h1, nil_toList]; simp
theorem mkParts_chain : ∀ (ys : List ByteArray) (p : S58) (lo : ByteArray), keyOk (bs lo) = true → ascK lo ys → ivOk p.f0 p.f1 = true → p.f1 = lo → chainFrom p (mkParts lo ys) = true
 | [], p, lo, hk, ha, hi, he => by
  have hn := keyOk_ne hk
  simp only [mkParts, chainFrom, joinOk, Bool.and_true]
  rw [hi, ivOk_up hk, he, decide_eq_false hn]; simp
 | y :: ys, p, lo, hk, ha, hi, he => by
  have hn := keyOk_ne hk
  have hy := ivOk_keys hk ha.1 ha.2.1
  simp only [mkParts, chainFrom, joinOk]
  rw [hi, hy, he, decide_eq_false hn, mkParts_chain ys ⟨lo, y⟩ y ha.1 ha.2.2 hy rfl]; simp
theorem mkParts_last : ∀ (ys : List ByteArray) (lo : ByteArray) (pre : List S58), (rd_T58 (pre ++ mkParts lo ys) (((pre ++ mkParts lo ys).length : Int) - 1)).f1 = (⟨#[]⟩ : ByteArray)
 | [], lo, pre => by
  unfold rd_T58
  rw [List.getD_eq_getElem?_getD, List.getElem?_append_right (by simp [mkParts])]
  simp [mkParts]
 | y :: ys, lo, pre => by
  have := mkParts_last ys y (pre ++ [⟨lo, y⟩])
  simp only [List.append_assoc, List.singleton_append] at this
  exact this
theorem mkParts_ok (ys : List ByteArray) (hl : ys.length ≤ 5) (ha : ascK (keyAt 0) ys) : partOk (mkParts (⟨#[]⟩ : ByteArray) ys) = true := by
 have hlast := mkParts_last ys (⟨#[]⟩ : ByteArray) []
 simp only [List.nil_append] at hlast
 have hlen := mkParts_length ys (⟨#[]⟩ : ByteArray)
 have hlast : (rd_T58 (mkParts (⟨#[]⟩ : ByteArray) ys) (((mkParts (⟨#[]⟩ : ByteArray) ys).length : Int) - 1)).f1.toList = [] := by rw [hlast]; exact nil_toList
 cases ys with
 | nil =>
  exact partOk_intro (v := ⟨(⟨#[]⟩ : ByteArray), (⟨#[]⟩ : ByteArray)⟩) (by simp) (by unfold ivOk; rw [nil_toList]; simp) nil_toList hlast rfl
 | cons y ys =>
  have e97 : keyAt 0 = (⟨#[97]⟩ : ByteArray) := bs_inj keyAt_a
  have hi : ivOk (⟨#[]⟩ : ByteArray) y = true := by
   have h2 := ha.2.1
   rw [e97] at h2
   unfold klt at h2
   unfold ivOk low
   rw [if_pos nil_toList, ha.1, h2, nil_toList]; simp
  have hlen : ((⟨(⟨#[]⟩ : ByteArray), y⟩ : S58) :: mkParts y ys).length = (y :: ys).length + 1 := hlen
  exact partOk_intro (v := ⟨(⟨#[]⟩ : ByteArray), y⟩) (by omega) hi nil_toList hlast (mkParts_chain ys _ y ha.1 ha.2.2 hi rfl)
theorem l20Bounds_l0 {b : List Int} (hb : Code b) : ∀ (m : Nat) (out : List ByteArray) (a c n p : Int), n = m → m ≤ 5 → (out.length : Int) + m ≤ 5 → 0 ≤ p → p + 2 * m ≤ 100000000 → 0 ≤ c → c < a → a + 65026 * m ≤ 475000 → ∃ ys q, spec_l20Bounds.l0L 0 out a n b p = some (out ++ ys, q) ∧ p ≤ q ∧ q ≤ p + 2 * m ∧ ys.length = m ∧ ascK (keyAt c) ys
 | 0, out, a, c, n, p, hn, hm, ho, hp, hp2, hc, ha, ha2 => by
  rw [spec_l20Bounds.l0L_eq, if_neg (by omega), spec_l20Rd_odd.fL_eq, if_neg (by omega), Option.bind_some]
  dsimp only
  rw [if_neg (by simp)]
  exact ⟨[], p, by simp, by omega, by omega, rfl, trivial⟩
 | m + 1, out, a, c, n, p, hn, hm, ho, hp, hp2, hc, ha, ha2 => by
  obtain ⟨v, hv, v0, v1, _⟩ := pick_ok hb p 256 hp (by omega) (by omega)
  obtain ⟨u, hu, u0, u1, _⟩ := pick_ok hb (p + 1) 256 (by omega) (by omega) (by omega)
  have v1 := v1 (by omega)
  have u1 := u1 (by omega)
  have m0 : 0 ≤ v * u := Int.mul_nonneg v0 u0
  have m1 : v * u ≤ 255 * 255 := Int.mul_le_mul (by omega) (by omega) u0 (by omega)
  rw [spec_l20Bounds.l0L_eq, if_pos (by omega), (spec_KeyAt_in a (by omega) (by omega)).1, Option.bind_some, if_pos (by omega), hv, Option.bind_some]
  dsimp only
  rw [hu, Option.bind_some]
  dsimp only
  rw [w64 (n := a + 1) (by omega) (by omega), w64 (n := v * u) (by omega) (by omega), w64 (n := a + 1 + v * u) (by omega) (by omega), w64 (n := n - 1) (by omega) (by omega)]
  obtain ⟨ys, q, hq, q0, q1, hl, hasc⟩ := l20Bounds_l0 hb m (out ++ [keyAt a]) (a + 1 + v * u) a (n - 1) (p + 1 + 1) (by omega) (by omega) (by simp; omega) (by omega) (by omega) (by omega) (by omega) (by omega)
  refine ⟨keyAt a :: ys, q, by rw [hq]; simp, by omega, by omega, by simp [hl], keyAt_ok a (by omega) (by omega), keyAt_lt c a hc ha (by omega), hasc⟩
/-! #### l20Parts0 -/
theorem odd_zero (b : List Int) (p : Int) : spec_l20Rd_odd.fL b p 0 = some (false, p) := by
 rw [spec_l20Rd_odd.fL_eq, if_neg (by omega)]
theorem l20Parts_zero {b : List Int} (hb : Code b) (p : Int) (hp : 0 ≤ p) (hp2 : p ≤ 90000000) : ∃ r q, spec_l20Parts.fL b p 0 = some (r, q) ∧ p ≤ q ∧ q ≤ p + 20 ∧ 1 ≤ r.length ∧ r.length ≤ 6 := by
 obtain ⟨v, hv, v0, v1, _⟩ := pick_ok hb p 200 hp (by omega) (by omega)
 obtain ⟨u, hu, u0, u1, _⟩ := pick_ok hb (p + 1) 6 (by omega) (by omega) (by omega)
 have v1 := v1 (by omega)
 have u1 := u1 (by omega)
 obtain ⟨ys, q, hq, q0, q1, hl, hasc⟩ := l20Bounds_l0 hb u.toNat [] (1 + v) 0 u (p + 1 + 1) (by omega) (by omega) (by simp; omega) (by omega) (by omega) (by omega) (by omega) (by omega)
 have hok := mkParts_ok ys (by omega) hasc
 have hlen := mkParts_length ys (⟨#[]⟩ : ByteArray)
 rw [spec_l20Parts.fL_eq, spec_l20Bounds.fL_eq, hv, Option.bind_some]
 dsimp only
 rw [hu, Option.bind_some]
 dsimp only
 rw [w64 (by omega) (by omega), hq, Option.bind_some]
 dsimp only
 rw [List.nil_append, spec_PartitionOf_f ys (by omega), if_pos hok, Option.bind_some]
 dsimp only
 rw [odd_zero, Option.bind_some]
 dsimp only
 rw [if_neg (by simp)]; exact ⟨_, _, rfl, by omega, by omega, by omega, by omega⟩

/-! #### l20Routes -/
theorem l20Routes_end {b : List Int} (hb : Code b) (a : Int) (ha : a ≤ 1000000) (out : List S60) (ps : List S58) (d e g p : Int) (hg : ¬ g < (ps.length : Int)) (ho : 1 ≤ out.length) (hl : out.length ≤ 6) (hp : 0 ≤ p) (hp2 : p ≤ 90001000) :
  ∃ r q, spec_l20Routes.l0L a out ps d e g b p = some (r, q) ∧ p ≤ q ∧ q ≤ p + 3 ∧ r.length ≤ 6 := by
 obtain ⟨o, q2, hq, o0, o1⟩ := odd_ok hb p a hp (by omega) ha
 rw [spec_l20Routes.l0L_eq, if_neg hg, hq, Option.bind_some]
 dsimp only
 cases o with
 | false => rw [if_neg (by simp)]; exact ⟨_, _, rfl, by omega, by omega, by omega⟩
 | true =>
  obtain ⟨w, hw, w0, w1, _⟩ := pick_ok hb q2 4 (by omega) (by omega) (by omega)
  rw [if_pos rfl, hw, Option.bind_some, w64 (n := (out.length : Int) - 1) (by omega) (by omega)]
  dsimp only
  by_cases c0 : w = 0
  ·rw [if_pos c0, if_pos (by omega)]; exact ⟨_, _, rfl, by omega, by omega, by simp; omega⟩
  ·rw [if_neg c0]
   by_cases c1 : w = 1
   ·obtain ⟨v, hv, v0, v1, _⟩ := pick_ok hb (q2 + 1) 2 (by omega) (by omega) (by omega)
    have v1 := v1 (by omega)
    rw [if_pos c1, Option.bind_some, hv, Option.bind_some]
    dsimp only
    rw [if_pos v0, if_pos (by simp; omega), if_pos (by omega)]; exact ⟨_, _, rfl, by omega, by omega, by simp; omega⟩
   ·rw [if_neg c1]
    by_cases c2 : w = 2
    ·rw [if_pos c2, if_pos (by omega), if_pos (by omega), if_pos (by omega)]; exact ⟨_, _, rfl, by omega, by omega, by simp; omega⟩
    ·rw [if_neg c2, if_pos (by omega), if_pos (by omega)]; exact ⟨_, _, rfl, by omega, by omega, by simp; omega⟩
theorem l20Routes_l0 {b : List Int} (hb : Code b) (a : Int) (ha : a ≤ 1000000) (ps : List S58) (h1 : 1 ≤ ps.length) (h6 : ps.length ≤ 6) (e p : Int) (hp : 0 ≤ p) (hp2 : p ≤ 90001000) : ∀ (m : Nat) (out : List S60) (d g : Int), g + m = ps.length → 0 ≤ g → (out.length : Int) = g →
  ∃ r q, spec_l20Routes.l0L a out ps d e g b p = some (r, q) ∧ p ≤ q ∧ q ≤ p + 3 ∧ r.length ≤ 6
 | 0, out, d, g, hm, h0, ho => l20Routes_end hb a ha out ps d e g p (by omega) (by omega) (by omega) hp hp2
 | m + 1, out, d, g, hm, h0, ho => by
  rw [spec_l20Routes.l0L_eq, if_pos (by omega), if_pos h0, if_pos (by omega), w64 (n := g + 1) (by omega) (by omega)]
  exact l20Routes_l0 hb a ha ps h1 h6 e p hp hp2 m _ _ (g + 1) (by omega) (by omega) (by simp; omega)
theorem l20Routes_ok {b : List Int} (hb : Code b) (p n : Int) (hp : 0 ≤ p) (hp2 : p ≤ 90000000) (hn : n ≤ 1000000) : ∃ r q, spec_l20Routes.fL b p n = some (r, q) ∧ p ≤ q ∧ q ≤ p + 30 ∧ r.length ≤ 6 := by
 obtain ⟨ps, q, hq, q0, q1, l1, l6⟩ := l20Parts_zero hb p hp hp2
 obtain ⟨v, hv, v0, v1, _⟩ := pick_ok hb q 8 (by omega) (by omega) (by omega)
 obtain ⟨u, hu, u0, u1, _⟩ := pick_ok hb (q + 1) 4 (by omega) (by omega) (by omega)
 have u1 := u1 (by omega)
 rw [spec_l20Routes.fL_eq, hq, Option.bind_some]
 dsimp only
 rw [hv, Option.bind_some]
 dsimp only
 rw [Option.bind_some, hu, Option.bind_some]
 dsimp only
 rw [if_pos u0, if_pos (by simp; omega)]
 obtain ⟨r, q2, hr, r0, r1, r2⟩ := l20Routes_l0 hb n hn ps l1 l6 (rd ([1, 3, 5, 7] : List Int) u) (q + 1 + 1) (by omega) (by omega) ps.length [] v 0 (by omega) (by omega) (by simp)
 exact ⟨r, q2, hr, by omega, by omega, r2⟩

/-! #### keyrank -/
def rankBelow : List Int → Int → Int
 | [], _ => 0
 | b :: l, d => 1 + (b - 97) * kfrom d + rankBelow l (d + 1)
def keyRank (l : List Int) : Int := if keyOk l = true then rankBelow l 1 - 1 else -1
theorem impl_keysFrom_f (d : Int) (h1 : 1 ≤ d) (h2 : d ≤ 10) : impl_keysFrom.fL d = some (kfrom d) := by
 have h4 : ∀ e : Int, e ≥ 4 → impl_keysFrom.fL e = some 1 := fun e he => by rw [impl_keysFrom.fL_eq, if_pos he]
 have h3 : impl_keysFrom.fL 3 = some 27 := by
  rw [impl_keysFrom.fL_eq, if_neg (by omega), w64 (by omega) (by omega), show (3 : Int) + 1 = 4 from rfl, h4 4 (by omega)]; simp [wrap64]
 have h2' : impl_keysFrom.fL 2 = some 703 := by
  rw [impl_keysFrom.fL_eq, if_neg (by omega), w64 (by omega) (by omega), show (2 : Int) + 1 = 3 from rfl, h3]; simp [wrap64]
 have h1' : impl_keysFrom.fL 1 = some 18279 := by
  rw [impl_keysFrom.fL_eq, if_neg (by omega), w64 (by omega) (by omega), show (1 : Int) + 1 = 2 from rfl, h2']; simp [wrap64]
 unfold kfrom
 by_cases e : d ≥ 4
 ·rw [h4 d e, if_pos e]
 ·rw [if_neg e]
  by_cases e3 : d = 3
  ·rw [if_pos e3, e3, h3]
  ·rw [if_neg e3]
   by_cases e2 : d = 2
   ·rw [if_pos e2, e2, h2']
   ·rw [if_neg e2, show d = 1 by omega, h1']
theorem rankBelow_range : ∀ (l : List Int) (d : Int), letters l = true → 0 ≤ rankBelow l d ∧ rankBelow l d ≤ 500000 * l.length
 | [], d, _ => by simp [rankBelow]
 | b :: l, d, h => by
  obtain ⟨hb, hl⟩ := letters_cons h
  have hr := rankBelow_range l (d + 1) hl
  have hk := kfrom_range d
  have m1 : 0 ≤ (b - 97) * kfrom d := Int.mul_nonneg (by omega) (by omega)
  have m2 : (b - 97) * kfrom d ≤ 25 * 18279 := Int.mul_le_mul (by omega) hk.2 (by omega) (by omega)
  simp only [rankBelow, List.length_cons]
  omega
theorem impl_rankBelow_f : ∀ (l : List Int) (s : ByteArray) (d : Int), bs s = l → letters l = true → l.length ≤ 4 → 1 ≤ d → d + l.length ≤ 6 → impl_rankBelow.fL s d = some (rankBelow l d)
 | [], s, d, h, _, _, _, _ => by rw [impl_rankBelow.fL_eq, if_pos ((toList_nil s).2 h)]; rfl
 | b :: l, s, d, h, hl, hn, hd, hd2 => by
  simp only [List.length_cons] at hn hd2
  obtain ⟨hb, hl'⟩ := letters_cons hl
  have hs : s.size = l.length + 1 := by rw [← bs_length, h]; rfl
  have hnn : ¬ s.toList = [] := by rw [toList_nil, h]; simp
  have hdr : bs (s.extract 1 s.size) = l := by rw [bs_drop s 1 s.size (Nat.le_refl _), h]; rfl
  have hk := kfrom_range d
  have hr := rankBelow_range l (d + 1) hl'
  have m1 : 0 ≤ (b - 97) * kfrom d := Int.mul_nonneg (by omega) (by omega)
  have m2 : (b - 97) * kfrom d ≤ 25 * 18279 := Int.mul_le_mul (by omega) hk.2 (by omega) (by omega)
  rw [impl_rankBelow.fL_eq, if_neg hnn, if_pos (by omega), impl_keysFrom_f d hd (by omega), Option.bind_some, if_pos (by omega), w64 (n := d + 1) (by omega) (by omega),
   impl_rankBelow_f l _ (d + 1) hdr hl' (by omega) (by omega) (by omega), Option.bind_some, bt_bs, rd_zero h, Int.emod_eq_of_lt (a := b - 97) (by omega) (by omega),
   w64 (n := (b - 97) * kfrom d) (by omega) (by omega), w64 (n := 1 + (b - 97) * kfrom d) (by omega) (by omega), w64 (by omega) (by omega)]
  rfl
theorem impl_KeyRank_f (s : ByteArray) : impl_KeyRank.fL s = some (keyRank (bs s)) := by
 rw [impl_KeyRank.fL_eq, impl_KeyValid_f, Option.bind_some]
 unfold keyRank
 by_cases h : keyOk (bs s) = true
 ·have hn := keyOk_len h
  have hr := rankBelow_range (bs s) 1 (keyOk_letters h)
  rw [if_pos h, if_pos h, impl_rankBelow_f _ s 1 rfl (keyOk_letters h) hn.2 (by omega) (by omega), Option.bind_some, w64 (by omega) (by omega)]
 ·rw [if_neg h, if_neg h]

/-! #### alive -/
theorem laws_alive_f : laws_alive.fL = some true := by
 rw [laws_alive.fL_eq, impl_KeyRank_f, impl_KeyRank_f]
 rfl

/-! #### intS -/
/-! #### loops -/
/-! #### refl_loop -/
theorem refl_loop (n : Nat) (L : Int → Option Bool) (hL : ∀ i : Int, 0 ≤ i → i ≤ n → L i = if i < (n : Int) then L (i + 1) else some true) : ∀ (m : Nat) (i : Int), i + m = n → 0 ≤ i → L i = some true
 | 0, i, h, h0 => by rw [hL i h0 (by omega), if_neg (by omega)]
 | m + 1, i, h, h0 => by rw [hL i h0 (by omega), if_pos (by omega)]; exact refl_loop n L hL m (i + 1) (by omega) (by omega)
theorem refl_loop0 (n : Nat) (L : Int → Option Bool) (hL : ∀ i : Int, 0 ≤ i → i ≤ n → L i = if i < (n : Int) then L (i + 1) else some true) : L 0 = some true := refl_loop n L hL n 0 (by omega) (by omega)

/-! #### sameRefl -/
theorem sameRoutes_refl (xs : List S60) (hx : xs.length ≤ 1000000000000) : laws_sameRoutes.fL xs xs = some true := by
 rw [laws_sameRoutes.fL_eq, if_pos rfl]
 refine refl_loop0 xs.length (fun i => laws_sameRoutes.l0L xs xs i) (fun i h0 h1 => ?_)
 rw [laws_sameRoutes.l0L_eq]
 by_cases h : i < (xs.length : Int)
 ·rw [if_pos h, if_pos h0, if_pos h, if_neg (by simp), w64 (by omega) (by omega), if_pos h]
 ·rw [if_neg h, if_neg h]

end Go.Proofs.YtagknifdfpjlbaaDoor.Pure
