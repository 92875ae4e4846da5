/- Lemmas for FnPairsText: what each function comes to. No condition. -/
import Derived.Test.YtagknifdfpjlbaaDoorLFnPairsText
namespace Go.Proofs.YtagknifdfpjlbaaDoor.Pure
open Go.RowKit Go.Proofs.YtagknifdfpjlbaaDoor.PFnPairsText Go.Proofs.YtagknifdfpjlbaaDoorW.PrintWords Go.Proofs.YtagknifdfpjlbaaDoorW.PrintLast Go.Proofs.YtagknifdfpjlbaaDoorW.PrintMore Go.Proofs.YtagknifdfpjlbaaDoor.Lim
set_option linter.unusedVariables false
set_option linter.unusedSimpArgs false

/-! #### basic -/
theorem w64 {n : Int} (h1 : -9223372036854775808 ≤ n) (h2 : n ≤ 9223372036854775807) : wrap64 n = n := by unfold wrap64; omega
theorem wf8 {n : Int} (h : (Lit.int .u8 n).wf = true) : 0 ≤ n ∧ n ≤ 255 := by
 simp only [Lit.wf, IntKind.min, IntKind.max, IntKind.signed, IntKind.bits, Bool.and_eq_true, decide_eq_true_eq] at h
 simp at h
 omega
theorem rd_drop {xs : List Int} {i : Int} {y : Int} {ys : List Int} (h0 : 0 ≤ i) (h : xs.drop i.toNat = y :: ys) : rd xs i = y ∧ i < xs.length ∧ xs.drop (i + 1).toNat = ys := by
 have h1 : i.toNat < xs.length := by
  by_cases e : i.toNat < xs.length
  ·exact e
  ·rw [List.drop_eq_nil_of_le (by omega)] at h; cases h
 rw [List.drop_eq_getElem_cons h1] at h
 injection h with ha hb
 refine ⟨?_, by omega, ?_⟩
 ·unfold rd; rw [List.getD_eq_getElem?_getD, List.getElem?_eq_getElem h1]; exact ha
 ·rw [show (i + 1).toNat = i.toNat + 1 by omega]; exact hb
theorem drop_nil {α : Type} {xs : List α} {i : Int} (h0 : 0 ≤ i) (hi : i ≤ xs.length) (h : xs.drop i.toNat = []) : i = xs.length := by
 have := congrArg List.length h
 simp at this
 omega
/-! #### bytes -/
/-- A string's bytes as numbers. -/
def bs (s : ByteArray) : List Int := s.data.toList.map fun b => (b.toNat : Int)
theorem bs_length (s : ByteArray) : (bs s).length = s.size := by simp [bs]
theorem bt_bs (s : ByteArray) (i : Int) : bt s i = rd (bs s) i := by
 unfold bt rd bs
 rw [List.getD_eq_getElem?_getD, List.getElem?_map]
 by_cases h : i.toNat < s.size
 ·rw [dif_pos h, List.getElem?_eq_getElem (by simpa using h)]; simp; rfl
 ·rw [dif_neg h, List.getElem?_eq_none (by simpa using h)]; rfl
theorem toList_loop (s : ByteArray) (i : Nat) (r : List UInt8) : ByteArray.toList.loop s i r = r.reverse ++ s.data.toList.drop i := by
 unfold ByteArray.toList.loop
 split
 next h =>
  rw [toList_loop s (i + 1) (s.get! i :: r)]
  have h' : i < s.data.toList.length := by simpa using h
  rw [List.drop_eq_getElem_cons h']
  have : s.get! i = s.data.toList[i] := by
   show s.data[i]! = _
   rw [getElem!_pos s.data i (by simpa using h)]; simp
  rw [this]; simp
 next h =>
  rw [List.drop_eq_nil_of_le (by simpa using h)]; simp
 termination_by s.size - i
theorem toList_data (s : ByteArray) : s.toList = s.data.toList := by
 unfold ByteArray.toList; rw [toList_loop]; simp
theorem toList_nil (s : ByteArray) : s.toList = [] ↔ bs s = [] := by rw [toList_data]; simp [bs]
theorem bs_drop (s : ByteArray) (i j : Nat) (hj : s.size ≤ j) : bs (s.extract i j) = (bs s).drop i := by
 unfold bs
 rw [ByteArray.data_extract, ← List.map_drop]
 congr 1
 rw [Array.toList_extract]
 have : s.data.toList.length = s.size := by simp
 simp only [List.extract]
 rw [List.take_of_length_le (by rw [List.length_drop]; omega)]
/-! #### spec_l1In -/
theorem spec_l1In_f (a lo hi : Int) : spec_l1In.f a lo hi = some (decide (lo ≤ a ∧ a ≤ hi)) := by
 unfold spec_l1In.f
 by_cases h : a ≥ lo
 ·rw [if_pos h]; congr 1; rw [decide_eq_decide]; omega
 ·rw [if_neg h]; congr 1; rw [eq_comm, decide_eq_false_iff_not]; omega

/-! #### words -/
/-- A string of these bytes. -/
def toBA (l : List UInt8) : ByteArray := ⟨l.toArray⟩
theorem toBA_data (s : ByteArray) : toBA s.data.toList = s := rfl
theorem size_data (s : ByteArray) : s.data.toList.length = s.size := Array.length_toList
/-- A word put ahead of the first one. -/
def glue (p : List UInt8) : List (List UInt8) → List (List UInt8)
 | [] => [p]
 | x :: xs => (p ++ x) :: xs
/-- The words between the places of a byte. -/
def wsp (c : UInt8) : List UInt8 → List (List UInt8)
 | [] => [[]]
 | b :: r => if b = c then [] :: wsp c r else glue [b] (wsp c r)
theorem glue_glue (p q : List UInt8) (l : List (List UInt8)) : glue p (glue q l) = glue (p ++ q) l := by
 cases l with
 | nil => rfl
 | cons x xs => simp [glue]
theorem glue_nil {l : List (List UInt8)} (h : l ≠ []) : glue [] l = l := by
 cases l with
 | nil => exact absurd rfl h
 | cons x xs => rfl
theorem glue_ne (p : List UInt8) (l : List (List UInt8)) : glue p l ≠ [] := by cases l <;> simp [glue]
theorem wsp_ne (c : UInt8) : ∀ l, wsp c l ≠ []
 | [] => by simp [wsp]
 | b :: r => by
  unfold wsp
  split
  ·simp
  ·exact glue_ne _ _
theorem wsp_app (c : UInt8) : ∀ (p r : List UInt8), c ∉ p → wsp c (p ++ r) = glue p (wsp c r)
 | [], r, _ => by rw [List.nil_append, glue_nil (wsp_ne c r)]
 | b :: p, r, h => by
  have hb : ¬ b = c := fun e => h (by rw [e]; exact List.mem_cons_self)
  rw [List.cons_append]
  show (if b = c then _ else glue [b] (wsp c (p ++ r))) = _
  rw [if_neg hb, wsp_app c p r (fun hp => h (List.mem_cons_of_mem _ hp)), glue_glue]; rfl
theorem wsp_tail (c : UInt8) : ∀ (l : List (List UInt8)), (∀ x ∈ l, c ∉ x) → wsp c (Lib.joinTail [c] l) = [] :: l
 | [], _ => rfl
 | x :: l, h => by
  have e : Lib.joinTail [c] (x :: l) = c :: (x ++ Lib.joinTail [c] l) := by simp [Lib.joinTail]
  rw [e]
  show (if c = c then [] :: wsp c (x ++ Lib.joinTail [c] l) else _) = _
  rw [if_pos rfl, wsp_app c x _ (h x List.mem_cons_self), wsp_tail c l (fun y hy => h y (List.mem_cons_of_mem _ hy))]
  simp [glue]
theorem wsp_join (c : UInt8) (l : List (List UInt8)) (h0 : l ≠ []) (h : ∀ x ∈ l, c ∉ x) : wsp c (Lib.join l [c]) = l := by
 cases l with
 | nil => exact absurd rfl h0
 | cons x l =>
  rw [Lib.join_cons, wsp_app c x _ (h x List.mem_cons_self), wsp_tail c l (fun y hy => h y (List.mem_cons_of_mem _ hy))]
  simp [glue]
theorem index_eq (c : UInt8) (l : List UInt8) : Lib.index (c :: l) [c] = 0 := by rw [Lib.index]; simp [List.isPrefixOf]
theorem index_ne {b c : UInt8} (l : List UInt8) (h : ¬ b = c) : Lib.index (b :: l) [c] = if Lib.index l [c] = -1 then -1 else Lib.index l [c] + 1 := by
 have hp : ([c] : List UInt8).isPrefixOf (b :: l) = false := by simp [List.isPrefixOf]; exact fun e => h e.symm
 rw [Lib.index, hp]
 by_cases e : Lib.index l [c] = -1 <;> simp [e]
theorem splitK_one (c : UInt8) : ∀ l : List UInt8, Lib.splitK [c] 0 (l.count c) l = wsp c l
 | [] => rfl
 | b :: l => by
  by_cases h : b = c
  ·subst h
   rw [List.count_cons_self, Lib.splitK, index_eq]
   show (if ((0 : Int) == -1) = true then _ else _) = _
   rw [if_neg (by decide)]
   show ([] : List UInt8) :: Lib.splitK [b] 0 (l.count b) l = _
   rw [splitK_one b l]
   show _ = if b = b then _ else _
   rw [if_pos rfl]
  ·rw [List.count_cons_of_ne (fun e => h (by simpa using e))]
   have ih := splitK_one c l
   show _ = if b = c then _ else glue [b] (wsp c l)
   rw [if_neg h, ← ih]
   cases hk : l.count c with
   | zero => rfl
   | succ k =>
    have hi : ¬ Lib.index l [c] = -1 := fun e => by
     have := Lib.count_miss e
     rw [Lib.count_one] at this; omega
    have hge := Lib.index_ge l [c]
    obtain ⟨j, hj⟩ : ∃ j : Nat, Lib.index l [c] = j := ⟨(Lib.index l [c]).toNat, by omega⟩
    rw [Lib.splitK, Lib.splitK, index_ne l h, if_neg hi, hj]
    rw [if_neg (show ¬ (((j : Int) + 1 == -1) = true) from fun e => by have := beq_iff_eq.1 e; omega), if_neg (show ¬ (((j : Int) == -1) = true) from fun e => by have := beq_iff_eq.1 e; omega)]
    rw [show ((j : Int) + 1).toNat = j + 1 by omega, show ((j : Int)).toNat = j by omega]
    rfl
/-- A text's part ahead of a byte, behind it, and whether it has one. -/
def cut1 (c : UInt8) : List UInt8 → List UInt8 × List UInt8 × Bool
 | [] => ([], [], false)
 | b :: r => if b = c then ([], r, true) else (b :: (cut1 c r).1, (cut1 c r).2.1, (cut1 c r).2.2)
theorem cut_one (c : UInt8) : ∀ l : List UInt8, Lib.cut l [c] = cut1 c l
 | [] => rfl
 | b :: l => by
  have ih := cut_one c l
  unfold Lib.cut at ih ⊢
  by_cases h : b = c
  ·subst h
   rw [index_eq]
   show (if (0 : Int) ≤ 0 then _ else _) = if b = b then _ else _
   rw [if_pos (by omega), if_pos rfl]; rfl
  ·show _ = if b = c then _ else (b :: (cut1 c l).1, (cut1 c l).2.1, (cut1 c l).2.2)
   rw [if_neg h, ← ih, index_ne l h]
   have hge := Lib.index_ge l [c]
   by_cases e : Lib.index l [c] = -1
   ·rw [if_pos e, e]; rfl
   ·obtain ⟨j, hj⟩ : ∃ j : Nat, Lib.index l [c] = j := ⟨(Lib.index l [c]).toNat, by omega⟩
    rw [if_neg e, hj, if_pos (by omega), if_pos (by omega), show ((j : Int) + 1).toNat = j + 1 by omega, show ((j : Int)).toNat = j by omega]
    rfl
theorem cut1_app (c : UInt8) : ∀ (p r : List UInt8), c ∉ p → cut1 c (p ++ c :: r) = (p, r, true)
 | [], r, _ => by show (if c = c then _ else _) = _; rw [if_pos rfl]
 | b :: p, r, h => by
  have hb : ¬ b = c := fun e => h (by rw [e]; exact List.mem_cons_self)
  show (if b = c then _ else (b :: (cut1 c (p ++ c :: r)).1, (cut1 c (p ++ c :: r)).2.1, (cut1 c (p ++ c :: r)).2.2)) = _
  rw [if_neg hb, cut1_app c p r (fun hp => h (List.mem_cons_of_mem _ hp))]
theorem strings_Split_e (s : ByteArray) (c : UInt8) (hs : s.size ≤ 2000000) : strings_Split.f s (⟨#[c]⟩ : ByteArray) = some ((wsp c s.data.toList).map toBA) := by
 have e : (Lib.splitB (⟨#[c]⟩ : ByteArray) 0 (Lib.countB s ⟨#[c]⟩) s).map (fun b => b.data.toList) = wsp c s.data.toList := by
  rw [Lib.splitB_data]
  show Lib.splitK [c] 0 (Lib.count s.data.toList [c]) s.data.toList = _
  rw [Lib.count_one, splitK_one]
 unfold strings_Split.f
 rw [if_pos ⟨by omega, by show 1 ≤ 1; omega⟩, ← e, List.map_map]
 congr 1
 exact (List.map_id _).symm
theorem strings_Cut_e (s : ByteArray) (c : UInt8) (hs : s.size ≤ 2000000) : strings_Cut.f s (⟨#[c]⟩ : ByteArray) = some (toBA (cut1 c s.data.toList).1, toBA (cut1 c s.data.toList).2.1, (cut1 c s.data.toList).2.2) := by
 unfold strings_Cut.f
 rw [if_pos (by omega)]
 show some (toBA (Lib.cut s.data.toList [c]).1, toBA (Lib.cut s.data.toList [c]).2.1, (Lib.cut s.data.toList [c]).2.2) = _
 rw [cut_one]
/-- A numeral's value. -/
def dv : Nat → List UInt8 → Nat
 | acc, [] => acc
 | acc, x :: r => dv (acc * 10 + (x.toNat - 48)) r
theorem dv_app : ∀ (l : List UInt8) (acc : Nat) (x : UInt8), dv acc (l ++ [x]) = dv acc l * 10 + (x.toNat - 48)
 | [], acc, x => rfl
 | y :: l, acc, x => dv_app l _ x
def digits (l : List UInt8) : Prop := ∀ x ∈ l, 48 ≤ x.toNat ∧ x.toNat ≤ 57
theorem dig_toNat (d : Nat) (h : d < 10) : (UInt8.ofNat (48 + d)).toNat = 48 + d := by
 rw [UInt8.toNat_ofNat']; omega
theorem dec_says (v : Nat) : digits (Lib.decDigits v) ∧ dv 0 (Lib.decDigits v) = v ∧ Lib.decDigits v ≠ [] := by
 induction v using Nat.strongRecOn with
 | _ v ih =>
  rw [Lib.decDigits]
  by_cases h : v < 10
  ·rw [dif_pos h]
   refine ⟨fun x hx => ?_, ?_, by simp⟩
   ·rw [List.mem_singleton.1 hx, dig_toNat v h]; omega
   ·show 0 * 10 + ((UInt8.ofNat (48 + v)).toNat - 48) = v
    rw [dig_toNat v h]; omega
  ·obtain ⟨h1, h2, _⟩ := ih (v / 10) (by omega)
   rw [dif_neg h]
   have e := dig_toNat (v % 10) (by omega)
   refine ⟨fun x hx => ?_, ?_, by simp⟩
   ·rcases List.mem_append.1 hx with hx | hx
    ·exact h1 x hx
    ·rw [List.mem_singleton.1 hx, e]; omega
   ·rw [dv_app, h2, e]; omega
theorem dec_len : ∀ (k v : Nat), 1 ≤ k → v < 10 ^ k → (Lib.decDigits v).length ≤ k
 | 0, v, h, _ => by omega
 | k + 1, v, h, hv => by
  rw [Lib.decDigits]
  by_cases c : v < 10
  ·rw [dif_pos c]; simp
  ·rw [dif_neg c]
   rw [Nat.pow_succ] at hv
   have hk : 1 ≤ k := by
    cases k with
    | zero => simp at hv; omega
    | succ k => omega
   have := dec_len k (v / 10) hk (by omega)
   simp; omega
theorem itoa_nat (v : Nat) : Lib.itoa (v : Int) = Lib.decDigits v := by unfold Lib.itoa; rw [if_neg (by omega)]; simp
theorem parse_dv : ∀ (r : List UInt8) (acc j : Nat), digits r → acc < 10 ^ j → j + r.length ≤ 8 → Lib.parseUint10 acc r = .ok (dv acc r)
 | [], acc, j, _, _, _ => rfl
 | x :: r, acc, j, hd, ha, hj => by
  have hx := hd x List.mem_cons_self
  rw [List.length_cons] at hj
  have hp : 10 ^ j ≤ 10 ^ 8 := Nat.pow_le_pow_right (by omega) (by omega)
  have hp8 : (10 : Nat) ^ 8 = 100000000 := by decide
  have ih := parse_dv r (acc * 10 + (x.toNat - 48)) (j + 1) (fun y hy => hd y (List.mem_cons_of_mem _ hy)) (by rw [Nat.pow_succ]; omega) (by omega)
  rw [Lib.parseUint10, if_pos hx, if_neg (by omega), if_neg (by omega), ih]; rfl
theorem impl_numberOf_itoa (v : Int) (h0 : 0 ≤ v) (h1 : v ≤ 999) : impl_numberOf.f (toBA (Lib.itoa v)) = some v := by
 obtain ⟨n, rfl⟩ := Int.eq_ofNat_of_zero_le h0
 obtain ⟨d1, d2, d3⟩ := dec_says n
 have hl := dec_len 3 n (by omega) (by show n < 1000; omega)
 rw [itoa_nat]
 have hz : (toBA (Lib.decDigits n)).size = (Lib.decDigits n).length := by simp [toBA, ByteArray.size]
 have hp : Lib.parseUint10 0 (Lib.decDigits n) = .ok n := by rw [parse_dv _ 0 0 d1 (by simp) (by omega), d2]
 have ha : Lib.atoiAll (Lib.decDigits n) = .ok (n : Int) := by
  cases hc : Lib.decDigits n with
  | nil => exact absurd hc d3
  | cons c r =>
   have hcd := d1 c (by rw [hc]; exact List.mem_cons_self)
   have hm : Lib.parseMag (c :: r) = .ok n := by
    unfold Lib.parseMag
    rw [if_neg (by simp), ← hc, hp]
   have h43 : ¬ (c.toNat = 43 ∨ c.toNat = 45) := by omega
   have h45 : ¬ (c.toNat = 45) := by omega
   have hm' : Lib.parseMag (if c.toNat = 43 ∨ c.toNat = 45 then r else c :: r) = .ok n := by rw [if_neg h43, hm]
   have hz' : ¬ (¬ (c.toNat = 45) ∧ 9223372036854775808 ≤ n) := by omega
   have hz2 : ¬ (c.toNat = 45 ∧ 9223372036854775808 < n) := by omega
   unfold Lib.atoiAll
   simp only [hm']
   rw [if_neg hz', if_neg hz2, if_neg h45]
 unfold impl_numberOf.f
 rw [if_pos (by rw [hz]; omega)]
 show some (numOr (Lib.atoiAll (Lib.decDigits n))) = _
 rw [ha]; rfl

/-! #### keys -/
def letters (l : List Int) : Bool := l.all fun b => decide (97 ≤ b ∧ b ≤ 122)
/-- KeyValid, over the bytes. -/
def keyOk (l : List Int) : Bool := decide (1 ≤ l.length ∧ l.length ≤ 4) && letters l
theorem rd_zero {l : List Int} {b : Int} {t : List Int} (h : l = b :: t) : rd l 0 = b := by subst h; rfl
theorem impl_lettersOnly_f : ∀ (l : List Int) (s : ByteArray), bs s = l → impl_lettersOnly.fL s = some (letters l)
 | [], s, h => by rw [impl_lettersOnly.fL_eq, if_pos ((toList_nil s).2 h)]; rfl
 | b :: l, s, h => by
  have hs : s.size = l.length + 1 := by rw [← bs_length, h]; rfl
  have hn : ¬ s.toList = [] := by rw [toList_nil, h]; simp
  have hd : bs (s.extract 1 s.size) = l := by rw [bs_drop s 1 s.size (Nat.le_refl _), h]; rfl
  rw [impl_lettersOnly.fL_eq, if_neg hn, if_pos (by omega), bt_bs, rd_zero h, if_pos (by omega : (1 : Int) ≤ (s.size : Int)), impl_lettersOnly_f l _ hd, Option.bind_some]
  unfold letters
  rw [List.all_cons]
  by_cases h1 : b ≥ 97
  ·rw [if_pos h1]
   by_cases h2 : b ≤ 122
   ·rw [if_pos h2, show decide (97 ≤ b ∧ b ≤ 122) = true from decide_eq_true ⟨h1, h2⟩]; rfl
   ·rw [if_neg h2, show decide (97 ≤ b ∧ b ≤ 122) = false from decide_eq_false (by omega)]; rfl
  ·rw [if_neg h1, show decide (97 ≤ b ∧ b ≤ 122) = false from decide_eq_false (by omega)]; rfl
theorem impl_KeyValid_f (s : ByteArray) : impl_KeyValid.fL s = some (keyOk (bs s)) := by
 rw [impl_KeyValid.fL_eq, impl_lettersOnly_f _ s rfl, Option.bind_some]
 unfold keyOk
 rw [bs_length]
 by_cases h1 : (s.size : Int) < 1
 ·rw [if_pos h1, decide_eq_false (by omega)]; rfl
 ·rw [if_neg h1]
  by_cases h2 : (s.size : Int) > 4
  ·rw [if_pos h2, decide_eq_false (by omega)]; rfl
  ·rw [if_neg h2, decide_eq_true (by omega)]; rfl
theorem keyOk_len {l : List Int} (h : keyOk l = true) : 1 ≤ l.length ∧ l.length ≤ 4 := by
 simp only [keyOk, Bool.and_eq_true, decide_eq_true_eq] at h; exact h.1
theorem keyOk_letters {l : List Int} (h : keyOk l = true) : letters l = true := by
 simp only [keyOk, Bool.and_eq_true, decide_eq_true_eq] at h; exact h.2
theorem letters_cons {b : Int} {l : List Int} (h : letters (b :: l) = true) : (97 ≤ b ∧ b ≤ 122) ∧ letters l = true := by
 simp only [letters, List.all_cons, Bool.and_eq_true, decide_eq_true_eq] at h
 exact ⟨h.1, by simp only [letters]; exact h.2⟩

/-! #### valueValid -/
theorem impl_valueValid_f (v : Int) : impl_valueValid.f v = some (decide (0 ≤ v ∧ v ≤ 999)) := by
 unfold impl_valueValid.f
 by_cases h : v ≥ 0
 ·rw [if_pos h]; congr 1; rw [decide_eq_decide]; omega
 ·rw [if_neg h]; congr 1; rw [eq_comm, decide_eq_false_iff_not]; omega

/-! #### spec_KeyValid -/
theorem spec_KeyValid_l0 (s : ByteArray) (hs : s.size ≤ 1000) : ∀ (ys : List Int) (i : Int), 0 ≤ i → i ≤ s.size → (bs s).drop i.toNat = ys → spec_KeyValid.l0L s i = some (letters ys)
 | [], i, h0, h1, hd => by
  have := drop_nil h0 (by rw [bs_length]; exact h1) hd
  rw [bs_length] at this
  rw [spec_KeyValid.l0L_eq, if_neg (by omega)]; rfl
 | y :: ys, i, h0, h1, hd => by
  obtain ⟨hr, hl, hd'⟩ := rd_drop h0 hd
  rw [bs_length] at hl
  rw [spec_KeyValid.l0L_eq, if_pos hl, if_pos h0, bt_bs, hr, w64 (by omega) (by omega)]
  unfold letters
  rw [List.all_cons]
  by_cases e1 : y < 97
  ·rw [if_pos e1, decide_eq_false (by omega)]; rfl
  ·rw [if_neg e1]
   by_cases e2 : y > 122
   ·rw [if_pos e2, decide_eq_false (by omega)]; rfl
   ·rw [if_neg e2, decide_eq_true (by omega), spec_KeyValid_l0 s hs ys (i + 1) (by omega) (by omega) hd']; rfl
theorem spec_KeyValid_f (s : ByteArray) : spec_KeyValid.fL s = some (keyOk (bs s)) := by
 rw [spec_KeyValid.fL_eq, spec_l1In_f, Option.bind_some]
 unfold keyOk
 rw [bs_length]
 by_cases h : 1 ≤ (s.size : Int) ∧ (s.size : Int) ≤ 4
 ·rw [if_pos (by simpa using h), decide_eq_true (by omega), spec_KeyValid_l0 s (by omega) (bs s) 0 (by omega) (by omega) (by simp)]; rfl
 ·rw [if_neg (by simpa using h), decide_eq_false (by omega)]; rfl

/-! #### pairs -/
def klt (a b : ByteArray) : Bool := Op.bytesLess a.toList b.toList
/-- A pair alone is valid. -/
def pairItem (y : S47) : Bool := keyOk (bs y.f0) && decide (0 ≤ y.f1 ∧ y.f1 ≤ 999)
/-- The key is greater than the one before, if there is one. -/
def above : Option ByteArray → ByteArray → Bool
 | none, _ => true
 | some q, k => klt q k
def pairsFrom : Option ByteArray → List S47 → Bool
 | _, [] => true
 | p, y :: ys => pairItem y && above p y.f0 && pairsFrom (some y.f0) ys
def pairsOk (l : List S47) : Bool := decide (l.length ≤ 48) && pairsFrom none l
theorem getD_cons {α : Type} {xs : List α} {d : α} {i : Int} {y : α} {ys : List α} (h0 : 0 ≤ i) (h : xs.drop i.toNat = y :: ys) : xs.getD i.toNat d = y ∧ i < xs.length ∧ xs.drop (i + 1).toNat = ys := by
 have h1 : i.toNat < xs.length := by
  by_cases e : i.toNat < xs.length
  ·exact e
  ·rw [List.drop_eq_nil_of_le (by omega)] at h; cases h
 rw [List.drop_eq_getElem_cons h1] at h
 injection h with ha hb
 refine ⟨?_, by omega, ?_⟩
 ·rw [List.getD_eq_getElem?_getD, List.getElem?_eq_getElem h1]; exact ha
 ·rw [show (i + 1).toNat = i.toNat + 1 by omega]; exact hb

/-! #### readnum -/
theorem letters_mem {l : List UInt8} (h : letters (l.map fun b => (b.toNat : Int)) = true) : ∀ b ∈ l, 97 ≤ b.toNat ∧ b.toNat ≤ 122 := by
 intro b hb
 unfold letters at h
 have := List.all_eq_true.1 h (b.toNat : Int) (List.mem_map.2 ⟨b, hb, rfl⟩)
 have := of_decide_eq_true this
 omega
theorem digits_itoa {v : Int} (h0 : 0 ≤ v) : digits (Lib.itoa v) := by
 obtain ⟨n, rfl⟩ := Int.eq_ofNat_of_zero_le h0
 rw [itoa_nat]
 exact (dec_says n).1
def numI (s : ByteArray) : Int := numOr (Lib.atoiAll s.data.toList)
theorem numI_itoa (v : Int) (h0 : 0 ≤ v) (h1 : v ≤ 999) : numI (toBA (Lib.itoa v)) = v := by
 have h := impl_numberOf_itoa v h0 h1
 unfold impl_numberOf.f at h
 split at h
 ·exact Option.some.inj h
 ·cases h
theorem wsp_sizes (c : UInt8) : ∀ (l : List UInt8), (∀ x ∈ wsp c l, x.length ≤ l.length) ∧ (wsp c l).length ≤ l.length + 1
 | [] => by simp [wsp]
 | b :: r => by
  obtain ⟨h1, h2⟩ := wsp_sizes c r
  show (∀ x ∈ (if b = c then [] :: wsp c r else glue [b] (wsp c r)), _) ∧ (if b = c then [] :: wsp c r else glue [b] (wsp c r)).length ≤ _
  split
  ·refine ⟨fun x hx => ?_, by simp; omega⟩
   rcases List.mem_cons.1 hx with rfl | hx
   ·simp
   ·have := h1 x hx; simp; omega
  ·cases hw : wsp c r with
   | nil => exact absurd hw (wsp_ne c r)
   | cons y ys =>
    rw [hw] at h1 h2
    refine ⟨fun x hx => ?_, by simp [glue] at h2 ⊢; omega⟩
    rcases List.mem_cons.1 hx with rfl | hx
    ·have := h1 y List.mem_cons_self; simp; omega
    ·have := h1 x (List.mem_cons_of_mem _ hx); simp; omega
theorem cut1_len (c : UInt8) : ∀ l : List UInt8, (cut1 c l).2.1.length ≤ l.length
 | [] => by simp [cut1]
 | b :: r => by
  have := cut1_len c r
  show (if b = c then ([], r, true) else (b :: (cut1 c r).1, (cut1 c r).2.1, (cut1 c r).2.2)).2.1.length ≤ _
  split
  ·simp
  ·simp; omega
theorem size_toBA (l : List UInt8) : (toBA l).size = l.length := by simp [toBA, ByteArray.size]
theorem strAt_drop {xs : List ByteArray} {i : Int} {y : ByteArray} {ys : List ByteArray} (h0 : 0 ≤ i) (hd : xs.drop i.toNat = y :: ys) : rdOf ByteArray.empty xs i = y ∧ i < (xs.length : Int) ∧ xs.drop (i + 1).toNat = ys := by
 obtain ⟨a, b, c⟩ := getD_cons (d := ByteArray.empty) h0 hd
 exact ⟨a, b, c⟩
theorem ba_list {a b : ByteArray} : a.toList = b.toList ↔ a = b := by
 rw [toList_data, toList_data]
 exact ⟨fun h => by rw [← toBA_data a, h, toBA_data], fun h => by rw [h]⟩
/-! #### l7Text -/
theorem dig_of (a : Nat) (h1 : a ≤ 1000000) : strOfNums ([(wrap64 (48 + (Int.tmod (a : Int) 10))) % 256] : List Int) = ⟨#[UInt8.ofNat (48 + a % 10)]⟩ := by
 have : ((wrap64 (48 + Int.tmod (a : Int) 10)) % 256).toNat = 48 + a % 10 := by
  rw [Int.tmod_eq_emod_of_nonneg (by omega), w64 (by omega) (by omega)]; omega
 unfold strOfNums
 rw [List.map_cons, List.map_nil, this]
theorem l7_loop (a : Nat) : ∀ (b : ByteArray), a + b.size ≤ 1000000 → spec_l7Text.l0L (a : Int) b = some ⟨((if a < 10 then [] else Lib.decDigits (a / 10)) ++ b.data.toList).toArray⟩ := by
 induction a using Nat.strongRecOn with
 | _ a ih =>
  intro b h
  rw [spec_l7Text.l0L_eq]
  by_cases h9 : a < 10
  ·rw [if_neg (by omega), if_pos h9, List.nil_append]
  ·have e1 : wrap64 (Int.tdiv (a : Int) 10) = ((a / 10 : Nat) : Int) := by
    rw [Int.tdiv_eq_ediv_of_nonneg (by omega), w64 (by omega) (by omega)]; omega
   have hs : ((⟨#[UInt8.ofNat (48 + a / 10 % 10)]⟩ : ByteArray) ++ b).size = b.size + 1 := by rw [ByteArray.size_append]; show 1 + b.size = _; omega
   have hd : ((⟨#[UInt8.ofNat (48 + a / 10 % 10)]⟩ : ByteArray) ++ b).data.toList = UInt8.ofNat (48 + a / 10 % 10) :: b.data.toList := by simp
   rw [if_pos (by omega), e1, Option.bind_some, dig_of _ (by omega), if_pos (show (⟨#[UInt8.ofNat (48 + a / 10 % 10)]⟩ : ByteArray).size + b.size ≤ 9223372036854775807 by show 1 + b.size ≤ _; omega), ih (a / 10) (by omega) _ (by omega), if_neg h9, hd]
   by_cases h2 : a / 10 < 10
   ·rw [if_pos h2, Lib.decDigits, dif_pos h2, Nat.mod_eq_of_lt h2]; rfl
   ·rw [if_neg h2, Lib.decDigits.eq_1 (a / 10), dif_neg h2, List.append_assoc]; rfl
theorem spec_l7Text_f (n : Int) (h0 : 0 ≤ n) (h1 : n ≤ 100000) : spec_l7Text.fL n = some ⟨(Lib.itoa n).toArray⟩ := by
 obtain ⟨a, rfl⟩ := Int.eq_ofNat_of_zero_le h0
 have hs : (⟨#[UInt8.ofNat (48 + a % 10)]⟩ : ByteArray).size = 1 := rfl
 have e : Lib.itoa (a : Int) = Lib.decDigits a := by unfold Lib.itoa; rw [if_neg (by omega)]; simp
 rw [spec_l7Text.fL_eq, if_neg (by omega), dig_of _ (by omega), l7_loop a _ (by omega), e, Lib.decDigits.eq_1 a]
 by_cases h2 : a < 10
 ·rw [if_pos h2, dif_pos h2, Nat.mod_eq_of_lt h2]; rfl
 ·rw [if_neg h2, dif_neg h2]
theorem decDigits_len (u : Nat) : (Lib.decDigits u).length ≤ u + 1 := by
 induction u using Nat.strongRecOn with
 | _ u ih =>
  rw [Lib.decDigits]
  by_cases h : u < 10
  ·rw [dif_pos h]; simp
  ·have := ih (u / 10) (by omega)
   rw [dif_neg h, List.length_append]
   simp only [List.length_cons, List.length_nil]
   omega
theorem itoa_len {n : Int} (h0 : 0 ≤ n) (h1 : n ≤ 999) : (Lib.itoa n).length ≤ 1000 := by
 unfold Lib.itoa
 rw [if_neg (by omega)]
 have := decDigits_len n.toNat
 omega
theorem strconv_Itoa_e {n : Int} (h0 : 0 ≤ n) (h1 : n ≤ 100000) : strconv_Itoa.f n = some ⟨(Lib.itoa n).toArray⟩ := by
 unfold strconv_Itoa.f
 rw [if_pos ⟨by omega, by omega⟩]
theorem joinTail_len : ∀ (l : List (List UInt8)) (m : Nat), (∀ x ∈ l, x.length ≤ m) → (Lib.joinTail [32] l).length ≤ (m + 1) * l.length
 | [], m, _ => by simp [Lib.joinTail]
 | x :: l, m, h => by
  have h1 := h x List.mem_cons_self
  have h2 := joinTail_len l m (fun y hy => h y (List.mem_cons_of_mem _ hy))
  have e : Lib.joinTail [32] (x :: l) = 32 :: x ++ Lib.joinTail [32] l := by simp [Lib.joinTail]
  rw [e, List.length_append, List.length_cons, List.length_cons, Nat.mul_add, Nat.mul_one]
  omega
theorem join_len (l : List (List UInt8)) (m : Nat) (h : ∀ x ∈ l, x.length ≤ m) : (Lib.join l [32]).length ≤ (m + 1) * l.length := by
 cases l with
 | nil => simp [Lib.join_nil]
 | cons x l =>
  have h1 := h x List.mem_cons_self
  have h2 := joinTail_len l m (fun y hy => h y (List.mem_cons_of_mem _ hy))
  rw [Lib.join_cons, List.length_append, List.length_cons, Nat.mul_add, Nat.mul_one]
  omega
theorem strings_Join_e (l : List ByteArray) (m : Nat) (hl : l.length ≤ 1000000) (hm : m ≤ 1000000) (h : ∀ x ∈ l, x.size ≤ m) : strings_Join.f l (⟨#[32]⟩ : ByteArray) = some ⟨(Lib.join (l.map (·.data.toList)) [32]).toArray⟩ := by
 have hj := join_len (l.map (·.data.toList)) m (fun x hx => by
  obtain ⟨y, hy, rfl⟩ := List.mem_map.1 hx
  have := h y hy
  simpa using this)
 rw [List.length_map] at hj
 have hb : (m + 1) * l.length ≤ 1000001 * 1000000 := Nat.mul_le_mul (by omega) hl
 unfold strings_Join.f
 rw [if_pos ⟨by omega, by show (Lib.join (l.map (·.data.toList)) [32]).length ≤ _; omega⟩]

/-! #### spec_pairs -/
theorem spec_PairsValid_l0 (xs : List S47) (hx : xs.length ≤ 48) : ∀ (ys : List S47) (i : Int) (p : Option ByteArray), 0 ≤ i → i ≤ xs.length → xs.drop i.toNat = ys → (i = 0 → p = none) → (0 < i → p = some (rd_T47 xs (i - 1)).f0) → spec_PairsValid.l0L xs i = some (pairsFrom p ys)
 | [], i, p, h0, h1, hd, hp0, hp1 => by
  have := drop_nil h0 h1 hd
  rw [spec_PairsValid.l0L_eq, if_neg (by omega)]; rfl
 | y :: ys, i, p, h0, h1, hd, hp0, hp1 => by
  obtain ⟨hr0, hl, hd'⟩ := getD_cons (d := z47) h0 hd
  have hr : rd_T47 xs i = y := hr0
  have hnext := spec_PairsValid_l0 xs hx ys (i + 1) (some y.f0) (by omega) (by omega) hd' (fun h => by omega) (fun _ => by rw [show i + 1 - 1 = i by omega, hr])
  rw [spec_PairsValid.l0L_eq, if_pos hl, if_pos h0, hr, spec_KeyValid_f, Option.bind_some, spec_l1In_f, Option.bind_some]
  simp only [w64 (n := i - 1) (by omega) (by omega), w64 (n := i + 1) (by omega) (by omega), pairsFrom, pairItem]
  cases hk : keyOk (bs y.f0) with
  | false => simp
  | true =>
   by_cases hv : 0 ≤ y.f1 ∧ y.f1 ≤ 999
   ·rw [decide_eq_true hv]
    by_cases hi : i > 0
    ·rw [if_pos rfl, if_pos rfl, if_pos hi, if_pos (by omega), if_pos (by omega), hp1 hi, hnext]
     simp only [above, klt]
     cases Op.bytesLess (rd_T47 xs (i - 1)).f0.toList y.f0.toList <;> simp
    ·rw [if_pos rfl, if_pos rfl, if_neg hi, hp0 (by omega), hnext]
     simp [above]
   ·rw [decide_eq_false hv]; simp
theorem spec_PairsValid_f (xs : List S47) : spec_PairsValid.fL xs = some (pairsOk xs) := by
 rw [spec_PairsValid.fL_eq]
 unfold pairsOk
 by_cases h : (xs.length : Int) > 48
 ·rw [if_pos h, decide_eq_false (by omega)]; rfl
 ·rw [if_neg h, decide_eq_true (by omega), spec_PairsValid_l0 xs (by omega) xs 0 none (by omega) (by omega) (by simp) (fun _ => rfl) (fun h => by omega)]; rfl

/-! #### impl_PairsValid -/
theorem impl_PairsValid_l0 (xs : List S47) (hx : xs.length ≤ 48) : ∀ (ys : List S47) (i : Int) (p : Option ByteArray), 0 ≤ i → i ≤ xs.length → xs.drop i.toNat = ys → (i = 0 → p = none) → (0 < i → p = some (rd_T47 xs (i - 1)).f0) → impl_PairsValid.l0L xs xs (xs.length : Int) i = some (pairsFrom p ys)
 | [], i, p, h0, h1, hd, hp0, hp1 => by
  have := drop_nil h0 h1 hd
  rw [impl_PairsValid.l0L_eq, if_neg (by omega)]; rfl
 | y :: ys, i, p, h0, h1, hd, hp0, hp1 => by
  obtain ⟨hr0, hl, hd'⟩ := getD_cons (d := z47) h0 hd
  have hr : rd_T47 xs i = y := hr0
  have hnext := impl_PairsValid_l0 xs hx ys (i + 1) (some y.f0) (by omega) (by omega) hd' (fun h => by omega) (fun _ => by rw [show i + 1 - 1 = i by omega, hr])
  rw [impl_PairsValid.l0L_eq, if_pos hl, if_pos h0, if_pos hl, hr, impl_KeyValid_f, Option.bind_some, impl_valueValid_f, Option.bind_some]
  simp only [impl_PairsValid.j1L_eq, w64 (n := i - 1) (by omega) (by omega), w64 (n := i + 1) (by omega) (by omega), if_true, pairsFrom, pairItem]
  cases hk : keyOk (bs y.f0) with
  | false => simp
  | true =>
   by_cases hv : 0 ≤ y.f1 ∧ y.f1 ≤ 999
   ·rw [decide_eq_true hv]
    by_cases hi : i > 0
    ·rw [if_pos rfl, if_neg (by simp), if_pos hi, if_pos (by omega), if_pos (by omega), hp1 hi, hnext]
     simp only [above, klt]
     cases Op.bytesLess (rd_T47 xs (i - 1)).f0.toList y.f0.toList <;> simp
    ·rw [if_pos rfl, if_neg (by simp), if_neg hi, hp0 (by omega), hnext]
     simp [above]
   ·rw [decide_eq_false hv]; simp
theorem impl_PairsValid_f (xs : List S47) : impl_PairsValid.fL xs = some (pairsOk xs) := by
 rw [impl_PairsValid.fL_eq]
 unfold pairsOk
 by_cases h : (xs.length : Int) > 48
 ·rw [if_pos h, decide_eq_false (by omega)]; rfl
 ·rw [if_neg h, decide_eq_true (by omega), impl_PairsValid_l0 xs (by omega) xs 0 none (by omega) (by omega) (by simp) (fun _ => rfl) (fun h => by omega)]; rfl

/-! #### PairsText -/
def pword (p : S47) : List UInt8 := p.f0.data.toList ++ 61 :: Lib.itoa p.f1
def ptext (l : List S47) : ByteArray := if pairsOk l = true then ⟨(Lib.join (l.map pword) [32]).toArray⟩ else ⟨#[]⟩
theorem pairsFrom_item : ∀ (l : List S47) (p : Option ByteArray), pairsFrom p l = true → ∀ y ∈ l, pairItem y = true
 | [], _, _, y, hy => by cases hy
 | x :: l, p, h, y, hy => by
  simp only [pairsFrom, Bool.and_eq_true] at h
  cases hy with
  | head => exact h.1.1
  | tail _ hy => exact pairsFrom_item l _ h.2 y hy
theorem pair_small {l : List S47} (h : pairsOk l = true) : l.length ≤ 48 ∧ ∀ y ∈ l, y.f0.size ≤ 4 ∧ 0 ≤ y.f1 ∧ y.f1 ≤ 999 := by
 simp only [pairsOk, Bool.and_eq_true, decide_eq_true_eq] at h
 refine ⟨h.1, fun y hy => ?_⟩
 have := pairsFrom_item l _ h.2 y hy
 unfold pairItem keyOk at this
 rw [Bool.and_eq_true, Bool.and_eq_true, decide_eq_true_eq, decide_eq_true_eq, bs_length] at this
 exact ⟨this.1.1.2, this.2⟩
theorem size_arr (l : List UInt8) : (⟨l.toArray⟩ : ByteArray).size = l.length := by simp [ByteArray.size]
theorem spec_PairsText_l0 (xs : List S47) (hok : pairsOk xs = true) : ∀ (ys : List S47) (i : Int) (out : ByteArray), 0 ≤ i → i ≤ xs.length → (out.size : Int) ≤ 2000 * i → xs.drop i.toNat = ys →
  spec_PairsText.l0L xs out i = some ⟨(out.data.toList ++ (if i = 0 then Lib.join (ys.map pword) [32] else Lib.joinTail [32] (ys.map pword))).toArray⟩
 | [], i, out, h0, h1, ho, hd => by
  have := drop_nil h0 h1 hd
  rw [spec_PairsText.l0L_eq, if_neg (by omega), spec_PairsText.j1L_eq, if_neg Bool.false_ne_true]
  have : (if i = 0 then Lib.join (([] : List S47).map pword) [32] else Lib.joinTail [32] (([] : List S47).map pword)) = [] := by split <;> rfl
  rw [this, List.append_nil]
 | y :: ys, i, out, h0, h1, ho, hd => by
  obtain ⟨h48, hsm⟩ := pair_small hok
  obtain ⟨hr0, hl, hd'⟩ := getD_cons (d := z47) h0 hd
  have hr : rd_T47 xs i = y := hr0
  have hy := hsm y (List.mem_of_mem_drop (i := i.toNat) (by rw [hd]; exact List.mem_cons_self))
  have hi := itoa_len hy.2.1 hy.2.2
  have ih := fun (o : ByteArray) (h : (o.size : Int) ≤ 2000 * (i + 1)) => spec_PairsText_l0 xs hok ys (i + 1) o (by omega) (by omega) h hd'
  have z : ∀ (a b : ByteArray), (a ++ b).size = a.size + b.size := fun a b => ByteArray.size_append
  have s32 : (⟨#[32]⟩ : ByteArray).size = 1 := rfl
  have s61 : (⟨#[61]⟩ : ByteArray).size = 1 := rfl
  have sI := size_arr (Lib.itoa y.f1)
  rw [spec_PairsText.l0L_eq, if_pos hl, spec_PairsValid_f, Option.bind_some, hok, spec_PairsText.j1L_eq, if_pos rfl, hr, spec_l7Text_f y.f1 hy.2.1 (by omega), w64 (by omega) (by omega)]
  by_cases c : i > 0
  ·rw [if_pos c, if_pos (by omega), if_pos h0, if_pos hl, if_pos (by simp only [z, s32]; omega), if_pos (by simp only [z, s32]; omega), Option.bind_some, if_pos (by simp only [z, s32, s61, sI]; omega), ih _ (by simp only [z, s32, s61, sI]; omega), if_neg (by omega), if_neg (by omega)]
   simp [Lib.joinTail, pword]
  ·rw [if_neg c, if_pos h0, if_pos hl, if_pos (by omega), if_pos (by simp only [z]; omega), Option.bind_some, if_pos (by simp only [z, s61, sI]; omega), ih _ (by simp only [z, s61, sI]; omega), if_neg (by omega), if_pos (by omega), List.map_cons, Lib.join_cons]
   simp [pword]
theorem spec_PairsText_f (xs : List S47) : spec_PairsText.fL xs = some (ptext xs) := by
 rw [spec_PairsText.fL_eq]
 unfold ptext
 by_cases h : pairsOk xs = true
 ·rw [if_pos h, spec_PairsText_l0 xs h xs 0 _ (by omega) (by omega) (by show ((0 : Nat) : Int) ≤ _; omega) (by simp), if_pos rfl]; rfl
 ·rw [if_neg h, spec_PairsText.l0L_eq]
  by_cases c : (0 : Int) < xs.length
  ·rw [if_pos c, spec_PairsValid_f, Option.bind_some, spec_PairsText.j1L_eq, if_neg h]
  ·rw [if_neg c, spec_PairsText.j1L_eq, if_neg Bool.false_ne_true]
theorem impl_PairsText_l0 (xs : List S47) (hok : pairsOk xs = true) : ∀ (ys : List S47) (i : Int) (a : List ByteArray), 0 ≤ i → i ≤ xs.length → (a.length : Int) ≤ i → (∀ x ∈ a, x.size ≤ 2000) → xs.drop i.toNat = ys →
  impl_PairsText.l0L a xs (xs.length : Int) i = some ⟨(Lib.join (a.map (·.data.toList) ++ ys.map pword) [32]).toArray⟩
 | [], i, a, h0, h1, ha, hs, hd => by
  have := drop_nil h0 h1 hd
  obtain ⟨h48, hsm⟩ := pair_small hok
  rw [impl_PairsText.l0L_eq, if_neg (by omega), strings_Join_e a 2000 (by omega) (by omega) hs, Option.bind_some, List.map_nil, List.append_nil]
 | y :: ys, i, a, h0, h1, ha, hs, hd => by
  obtain ⟨h48, hsm⟩ := pair_small hok
  obtain ⟨hr0, hl, hd'⟩ := getD_cons (d := z47) h0 hd
  have hr : rd_T47 xs i = y := hr0
  have hy := hsm y (List.mem_of_mem_drop (i := i.toNat) (by rw [hd]; exact List.mem_cons_self))
  have hi := itoa_len hy.2.1 hy.2.2
  have z : ∀ (a b : ByteArray), (a ++ b).size = a.size + b.size := fun a b => ByteArray.size_append
  have s61 : (⟨#[61]⟩ : ByteArray).size = 1 := rfl
  have sI := size_arr (Lib.itoa y.f1)
  have ih := impl_PairsText_l0 xs hok ys (i + 1) (a ++ [(y.f0 ++ (⟨#[61]⟩ : ByteArray)) ++ ⟨(Lib.itoa y.f1).toArray⟩]) (by omega) (by omega) (by simp; omega) (fun x hx => by
   rcases List.mem_append.1 hx with hx | hx
   ·exact hs x hx
   ·rw [List.mem_singleton.1 hx]; simp only [z, s61, sI]; omega) hd'
  rw [impl_PairsText.l0L_eq, if_pos hl, if_pos h0, if_pos hl, hr, if_pos (by omega), strconv_Itoa_e hy.2.1 (by omega), Option.bind_some, if_pos (by simp only [z, s61, sI]; omega), if_pos (by omega), w64 (by omega) (by omega), ih]
  simp [pword]
theorem impl_PairsText_f (xs : List S47) : impl_PairsText.fL xs = some (ptext xs) := by
 rw [impl_PairsText.fL_eq, impl_PairsValid_f, Option.bind_some]
 unfold ptext
 by_cases h : pairsOk xs = true
 ·rw [if_pos h, if_pos h, impl_PairsText_l0 xs h xs 0 [] (by omega) (by omega) (by simp) (by simp) (by simp)]; rfl
 ·rw [if_neg h, if_neg h]

/-! #### ReadPairs -/
theorem pair_word {l : List S47} (h : pairsOk l = true) : ∀ y ∈ l, (∀ b ∈ y.f0.data.toList, 97 ≤ b.toNat ∧ b.toNat ≤ 122) ∧ y.f0.size ≤ 4 ∧ 0 ≤ y.f1 ∧ y.f1 ≤ 999 := by
 intro y hy
 have hs := (pair_small h).2 y hy
 refine ⟨?_, hs⟩
 simp only [pairsOk, Bool.and_eq_true, decide_eq_true_eq] at h
 have := pairsFrom_item l _ h.2 y hy
 unfold pairItem keyOk at this
 rw [Bool.and_eq_true, Bool.and_eq_true] at this
 exact letters_mem this.1.2
theorem pword_no32 {l : List S47} (h : pairsOk l = true) : ∀ x ∈ l.map pword, (32 : UInt8) ∉ x := by
 intro x hx h32
 obtain ⟨y, hy, rfl⟩ := List.mem_map.1 hx
 obtain ⟨hk, _, h0, _⟩ := pair_word h y hy
 unfold pword at h32
 rcases List.mem_append.1 h32 with h3 | h3
 ·have := (hk _ h3).1
  revert this; decide
 ·rcases List.mem_cons.1 h3 with h3 | h3
  ·revert h3; decide
  ·have := (digits_itoa h0 _ h3).1
   revert this; decide
theorem pword_cut {l : List S47} (h : pairsOk l = true) (y : S47) (hy : y ∈ l) : cut1 61 (pword y) = (y.f0.data.toList, Lib.itoa y.f1, true) := by
 obtain ⟨hk, _, _, _⟩ := pair_word h y hy
 exact cut1_app 61 _ _ (fun hm => by have := (hk _ hm).1; revert this; decide)
/-- The pair of a word, as a reader of numbers has it. -/
def pOf (num : ByteArray → Int) (w : List UInt8) : S47 := ⟨toBA (cut1 61 w).1, num (toBA (cut1 61 w).2.1)⟩
theorem round_trip {l : List S47} {s : ByteArray} (h : pairsOk l = true) (h0 : l ≠ []) (hs : ptext l = s) (num : ByteArray → Int) (hn : ∀ v : Int, 0 ≤ v → v ≤ 999 → num (toBA (Lib.itoa v)) = v) :
  wsp 32 s.data.toList = l.map pword ∧ (wsp 32 s.data.toList).map (pOf num) = l := by
 have e : wsp 32 s.data.toList = l.map pword := by
  rw [← hs]
  unfold ptext
  rw [if_pos h]
  exact wsp_join 32 _ (by simpa using h0) (pword_no32 h)
 refine ⟨e, ?_⟩
 rw [e, List.map_map]
 have : ∀ y ∈ l, (pOf num ∘ pword) y = y := fun y hy => by
  obtain ⟨_, _, h1, h2⟩ := pair_word h y hy
  show pOf num (pword y) = y
  unfold pOf
  rw [pword_cut h y hy, hn _ h1 h2, toBA_data]
 rw [List.map_congr_left this, List.map_id']
/-- What is read: the one list whose text it is. -/
def readP (s : ByteArray) : List S47 × Bool :=
 if s.toList = [] then ([], true)
 else if (wsp 32 s.data.toList).length ≤ 48 ∧ pairsOk ((wsp 32 s.data.toList).map (pOf numI)) = true ∧ ptext ((wsp 32 s.data.toList).map (pOf numI)) = s then ((wsp 32 s.data.toList).map (pOf numI), true) else ([], false)
theorem impl_ReadPairs_l0 (s : ByteArray) (ws : List ByteArray) (hw : ∀ w ∈ ws, w.size ≤ 2000000) (hl : ws.length ≤ 48) : ∀ (ys : List ByteArray) (i : Int) (out : List S47), 0 ≤ i → i ≤ ws.length → (out.length : Int) ≤ i → ws.drop i.toNat = ys →
  impl_ReadPairs.l0L s out ws (ws.length : Int) i = (let L := out ++ ys.map fun w => pOf numI w.data.toList; if pairsOk L = true then (if (ptext L).toList = s.toList then some (L, true) else some ([], false)) else some ([], false))
 | [], i, out, h0, h1, ho, hd => by
  have := drop_nil h0 h1 hd
  rw [impl_ReadPairs.l0L_eq, if_neg (by omega), impl_PairsValid_f, Option.bind_some]
  simp only [List.map_nil, List.append_nil]
  by_cases h : pairsOk out = true
  ·rw [if_pos h, if_pos h, impl_PairsText_f, Option.bind_some]
  ·rw [if_neg h, if_neg h]
 | y :: ys, i, out, h0, h1, ho, hd => by
  obtain ⟨hr, hlt, hd'⟩ := strAt_drop h0 hd
  have hy := hw y (List.mem_of_mem_drop (i := i.toNat) (by rw [hd]; exact List.mem_cons_self))
  have hc := cut1_len 61 y.data.toList
  rw [size_data] at hc
  have hn : impl_numberOf.f (toBA (cut1 61 y.data.toList).2.1) = some (numI (toBA (cut1 61 y.data.toList).2.1)) := by
   unfold impl_numberOf.f
   rw [if_pos (by rw [size_toBA]; omega)]; rfl
  rw [impl_ReadPairs.l0L_eq, if_pos hlt, if_pos h0, if_pos hlt, hr, strings_Cut_e y 61 hy, Option.bind_some]
  dsimp only
  rw [hn, Option.bind_some, if_pos (by omega), w64 (by omega) (by omega), impl_ReadPairs_l0 s ws hw hl ys (i + 1) _ (by omega) (by omega) (by simp; omega) hd']
  simp only [List.map_cons, List.append_assoc, List.singleton_append]
  rfl
theorem impl_ReadPairs_f (s : ByteArray) (hs : s.size ≤ 2000000) : impl_ReadPairs.fL s = some (readP s) := by
 rw [impl_ReadPairs.fL_eq]
 unfold readP
 by_cases h : s.toList = []
 ·rw [if_pos h, if_pos h]
 ·rw [if_neg h, if_neg h, strings_Split_e s 32 hs, Option.bind_some, List.length_map]
  by_cases h48 : (wsp 32 s.data.toList).length ≤ 48
  ·have hw : ∀ w ∈ (wsp 32 s.data.toList).map toBA, w.size ≤ 2000000 := fun w hw => by
    obtain ⟨x, hx, rfl⟩ := List.mem_map.1 hw
    have := (wsp_sizes 32 s.data.toList).1 x hx
    rw [size_data] at this
    rw [size_toBA]; omega
   have e := impl_ReadPairs_l0 s ((wsp 32 s.data.toList).map toBA) hw (by rw [List.length_map]; exact h48) _ 0 [] (by omega) (by omega) (by simp) rfl
   have e2 : (((wsp 32 s.data.toList).map toBA).drop (0 : Int).toNat).map (fun w => pOf numI w.data.toList) = (wsp 32 s.data.toList).map (pOf numI) := by
    show ((wsp 32 s.data.toList).map toBA).map _ = _
    rw [List.map_map]; rfl
   rw [e2, List.nil_append, List.length_map] at e
   rw [if_neg (by omega), e]
   dsimp only
   by_cases c1 : pairsOk ((wsp 32 s.data.toList).map (pOf numI)) = true
   ·rw [if_pos c1]
    by_cases c2 : ptext ((wsp 32 s.data.toList).map (pOf numI)) = s
    ·rw [if_pos (ba_list.2 c2), if_pos ⟨h48, c1, c2⟩]
    ·rw [if_neg (fun q => c2 (ba_list.1 q)), if_neg (fun q => c2 q.2.2)]
   ·rw [if_neg c1, if_neg (fun q => c1 q.2.1)]
  ·rw [if_pos (by omega), if_neg (fun q => h48 q.1)]
/-! #### ptextmore -/
theorem ptext_ne {l : List S47} (h : pairsOk l = true) (h0 : l ≠ []) : ¬ (ptext l).toList = [] := by
 cases l with
 | nil => exact absurd rfl h0
 | cons y l =>
  rw [toList_data]
  unfold ptext
  rw [if_pos h]
  show ¬ Lib.join ((y :: l).map pword) [32] = []
  rw [List.map_cons, Lib.join_cons]
  unfold pword
  intro q
  have := (List.append_eq_nil_iff.1 (List.append_eq_nil_iff.1 q).1).2
  cases this
theorem ptext_size (l : List S47) : (ptext l).size ≤ 200000 := by
 unfold ptext
 by_cases h : pairsOk l = true
 ·rw [if_pos h]
  obtain ⟨h48, hs⟩ := pair_small h
  have hj := join_len (l.map pword) 2000 (fun x hx => by
   obtain ⟨y, hy, rfl⟩ := List.mem_map.1 hx
   have hb := hs y hy
   have hi := itoa_len hb.2.1 hb.2.2
   unfold pword
   rw [List.length_append, List.length_cons, size_data]
   omega)
  rw [List.length_map] at hj
  rw [size_arr]
  omega
 ·rw [if_neg h]; show 0 ≤ _; omega
theorem readP_of {l : List S47} (h : pairsOk l = true) (h0 : l ≠ []) : readP (ptext l) = (l, true) := by
 obtain ⟨b1, b2⟩ := round_trip h h0 rfl numI numI_itoa
 unfold readP
 rw [if_neg (ptext_ne h h0), b2, if_pos ⟨by rw [b1, List.length_map]; exact (pair_small h).1, h, rfl⟩]
/-! #### reader -/
theorem spec_l20Open_f (l : List Int) : spec_l20Open.f l = some (l.take 2000, 0) := by
 unfold spec_l20Open.f
 by_cases h : (l.length : Int) > 2000
 ·rw [if_pos h, if_pos (by omega)]
 ·rw [if_neg h, List.take_of_length_le (by omega)]
/-- The bytes of a code. -/
def Code (b : List Int) : Prop := b.length ≤ 2000 ∧ ∀ x ∈ b, 0 ≤ x ∧ x ≤ 255
theorem Code.take {l : List Int} (h : ∀ x ∈ l, (Lit.int .u8 x).wf = true) : Code (l.take 2000) :=
 ⟨by rw [List.length_take]; omega, fun x hx => wf8 (h x (List.mem_of_mem_take hx))⟩
theorem Code.get {b : List Int} (h : Code b) (i : Int) (hi : i.toNat < b.length) : 0 ≤ rd b i ∧ rd b i ≤ 255 := by
 unfold rd
 rw [List.getD_eq_getElem?_getD, List.getElem?_eq_getElem hi]
 exact h.2 _ (List.getElem_mem hi)
theorem xor_range (a b : Int) (h0 : 0 ≤ a) (h1 : a ≤ 4611686018427387903) (h2 : 0 ≤ b) (h3 : b ≤ 4611686018427387903) : 0 ≤ Go.bits .xor .i64 a b ∧ Go.bits .xor .i64 a b ≤ 4611686018427387903 := by
 obtain ⟨x, rfl⟩ := Int.eq_ofNat_of_zero_le h0
 obtain ⟨y, rfl⟩ := Int.eq_ofNat_of_zero_le h2
 have hx : x ^^^ y < 2 ^ 62 := Nat.xor_lt_two_pow (by omega) (by omega)
 have g1 : (BitVec.ofInt 64 (x : Int)).toNat = x := by
  rw [BitVec.ofInt_natCast, BitVec.toNat_ofNat]; exact Nat.mod_eq_of_lt (by omega)
 have g2 : (BitVec.ofInt 64 (y : Int)).toNat = y := by
  rw [BitVec.ofInt_natCast, BitVec.toNat_ofNat]; exact Nat.mod_eq_of_lt (by omega)
 have e : Go.bits .xor .i64 (x : Int) (y : Int) = ((x ^^^ y : Nat) : Int) := by
  show IntKind.i64.wrap ((BitVec.ofInt 64 (x : Int) ^^^ BitVec.ofInt 64 (y : Int)).toNat : Int) = _
  rw [BitVec.toNat_xor, g1, g2, IntKind.wrap_i64]
  omega
 rw [e]
 omega
theorem tmod_range {a n : Int} (h0 : 0 ≤ a) (hn : 1 ≤ n) : 0 ≤ Int.tmod a n ∧ Int.tmod a n < n := by
 rw [Int.tmod_eq_emod_of_nonneg h0]
 exact ⟨Int.emod_nonneg _ (by omega), Int.emod_lt_of_pos _ (by omega)⟩
theorem pick_ok {b : List Int} (hb : Code b) (p n : Int) (h0 : 0 ≤ p) (h1 : p ≤ 1000000000000) (hn : n ≤ 1000000) :
  ∃ v, spec_l20Rd_pick.fL b p n = some (v, p + 1) ∧ 0 ≤ v ∧ (1 ≤ n → v < n) ∧ (n < 1 → v = 0) := by
 rw [spec_l20Rd_pick.fL_eq, spec_l20Rd_pick.j0L_eq, spec_l20Rd_pick.j0L_eq, w64 (n := p + 1) (by omega) (by omega), w64 (n := p + 1 - 1) (by omega) (by omega), show p + 1 - 1 = p by omega]
 by_cases e : n < 1
 ·rw [if_pos e, if_pos rfl]; exact ⟨0, rfl, by omega, fun h => by omega, fun _ => rfl⟩
 ·rw [if_neg e]
  by_cases e0 : (b.length : Int) = 0
  ·rw [if_pos (by simpa using e0)]; exact ⟨0, rfl, by omega, fun h => by omega, fun _ => rfl⟩
  ·rw [if_neg (by simpa using e0)]
   by_cases e1 : p < b.length
   ·have hr := hb.get p (by omega)
    rw [if_pos e1, if_pos h0, if_neg (by omega), w64 (n := rd b p) (by omega) (by omega)]
    have := tmod_range hr.1 (n := n) (by omega)
    exact ⟨_, rfl, this.1, fun _ => this.2, fun h => by omega⟩
   ·have hl := hb.1
    have t1 := tmod_range h0 (n := (b.length : Int)) (by omega)
    have t2 := tmod_range (a := p * 7 + 3) (by omega) (n := (b.length : Int)) (by omega)
    have r1 := hb.get (Int.tmod p b.length) (by omega)
    have r2 := hb.get (Int.tmod (p * 7 + 3) b.length) (by omega)
    have td : Int.tdiv p b.length = p / b.length := Int.tdiv_eq_ediv_of_nonneg h0
    have d0 : 0 ≤ p / (b.length : Int) := Int.ediv_nonneg h0 (by omega)
    have d1 : p / (b.length : Int) ≤ p := Int.ediv_le_self _ h0
    rw [if_neg e1, if_neg e0, w64 (n := p * 7) (by omega) (by omega), w64 (n := p * 7 + 3) (by omega) (by omega), if_pos t1.1, if_pos t1.2, if_pos t2.1, if_pos t2.2, if_neg (by omega)]
    generalize rd b (Int.tmod p b.length) = A at *
    generalize rd b (Int.tmod (p * 7 + 3) b.length) = B at *
    rw [td]
    generalize p / (b.length : Int) = D at *
    rw [w64 (n := A) (by omega) (by omega), w64 (n := B) (by omega) (by omega), w64 (n := D) (by omega) (by omega), w64 (n := A * 131) (by omega) (by omega), w64 (n := B * 1117) (by omega) (by omega), w64 (n := p * 29) (by omega) (by omega), w64 (n := D * 53) (by omega) (by omega),
     w64 (n := A * 131 + B * 1117) (by omega) (by omega), w64 (n := A * 131 + B * 1117 + p * 29) (by omega) (by omega), w64 (n := A * 131 + B * 1117 + p * 29 + D * 53) (by omega) (by omega)]
    generalize hX : A * 131 + B * 1117 + p * 29 + D * 53 = X
    have q0 : 0 ≤ X := by omega
    have q1 : X ≤ 1000000000000000 := by omega
    have e64 : Int.tdiv X 64 = X / 64 := Int.tdiv_eq_ediv_of_nonneg q0
    rw [e64, w64 (n := X / 64) (by omega) (by omega)]
    have hx := xor_range X (X / 64) q0 (by omega) (by omega) (by omega)
    have := tmod_range hx.1 (n := n) (by omega)
    exact ⟨_, rfl, this.1, fun _ => this.2, fun h => by omega⟩

/-! #### odd -/
theorem odd_ok {b : List Int} (hb : Code b) (p n : Int) (h0 : 0 ≤ p) (h1 : p ≤ 1000000000000) (hn : n ≤ 1000000) :
  ∃ v q, spec_l20Rd_odd.fL b p n = some (v, q) ∧ p ≤ q ∧ q ≤ p + 1 := by
 rw [spec_l20Rd_odd.fL_eq]
 by_cases e : n > 0
 ·obtain ⟨v, hv, _⟩ := pick_ok hb p n h0 h1 hn
  rw [if_pos e, hv]
  exact ⟨_, _, rfl, by dsimp only; omega, by dsimp only; omega⟩
 ·rw [if_neg e]
  exact ⟨_, _, rfl, by omega, by omega⟩

/-! #### lits -/
theorem rd_mem {xs : List Int} {i : Int} (h0 : 0 ≤ i) (h1 : i < xs.length) : rd xs i ∈ xs := by
 unfold rd
 rw [List.getD_eq_getElem?_getD, List.getElem?_eq_getElem (show i.toNat < xs.length by omega)]
 exact List.getElem_mem _
theorem rdOf_mem {α : Type} {d : α} {xs : List α} {i : Int} (h0 : 0 ≤ i) (h1 : i < xs.length) : rdOf d xs i ∈ xs := by
 unfold rdOf
 rw [List.getD_eq_getElem?_getD, List.getElem?_eq_getElem (show i.toNat < xs.length by omega)]
 exact List.getElem_mem _
theorem strOfNums_len (xs : List Int) : (strOfNums xs).size = xs.length := by simp [strOfNums, ByteArray.size]

/-! #### l20Key -/
theorem l20Key_l0 {b : List Int} (hb : Code b) : ∀ (m : Nat) (s : ByteArray) (n p : Int), n = m → s.size + m ≤ 1000 → 0 ≤ p → p + m ≤ 1000000000 → ∃ r q, spec_l20Key.l0L s n b p = some (r, q) ∧ p ≤ q ∧ q ≤ p + m ∧ r.size ≤ s.size + m
 | 0, s, n, p, h, hs, hp, hp2 => by rw [spec_l20Key.l0L_eq, if_neg (by omega)]; exact ⟨_, _, rfl, by omega, by omega, by omega⟩
 | m + 1, s, n, p, h, hs, hp, hp2 => by
  obtain ⟨v, hv, v0, v1, _⟩ := pick_ok hb p 4 hp (by omega) (by omega)
  rw [spec_l20Key.l0L_eq, if_pos (by omega), hv, Option.bind_some, Option.bind_some, if_pos (by rw [strOfNums_len]; simp; omega), w64 (n := n - 1) (by omega) (by omega)]
  obtain ⟨r, q, hr, q0, q1, hrs⟩ := l20Key_l0 hb m (s ++ strOfNums [(wrap64 (97 + v)) % 256]) (n - 1) (p + 1) (by omega) (by rw [ByteArray.size_append, strOfNums_len]; simp; omega) (by omega) (by omega)
  refine ⟨r, q, hr, by omega, by omega, ?_⟩
  rw [ByteArray.size_append, strOfNums_len] at hrs
  simp at hrs
  omega
theorem l20Key_ok {b : List Int} (hb : Code b) (p n : Int) (hp : 0 ≤ p) (hp2 : p ≤ 100000000) (hn : n ≤ 1000000) : ∃ r q, spec_l20Key.fL b p n = some (r, q) ∧ p ≤ q ∧ q ≤ p + 5 ∧ r.size ≤ 5 := by
 obtain ⟨o, q1, ho, o0, o1⟩ := odd_ok hb p n hp (by omega) hn
 rw [spec_l20Key.fL_eq, ho, Option.bind_some]
 dsimp only
 cases o with
 | true =>
  obtain ⟨v, hv, v0, v1, _⟩ := pick_ok hb q1 6 (by omega) (by omega) (by omega)
  have v1 := v1 (by omega)
  rw [if_pos rfl, Option.bind_some, hv, Option.bind_some]
  dsimp only
  rw [if_pos v0, if_pos (by simp; omega)]
  refine ⟨_, _, rfl, by omega, by omega, ?_⟩
  exact (show ∀ s ∈ ([(⟨#[]⟩ : ByteArray), (⟨#[65]⟩ : ByteArray), (⟨#[97, 49]⟩ : ByteArray), (⟨#[97, 98, 99, 100, 101]⟩ : ByteArray), (⟨#[98, 123]⟩ : ByteArray), (⟨#[97, 32, 98]⟩ : ByteArray)] : List ByteArray), s.size ≤ 5 by decide) _ (rdOf_mem v0 (by simp; omega))
 | false =>
  obtain ⟨v, hv, v0, v1, _⟩ := pick_ok hb q1 12 (by omega) (by omega) (by omega)
  rw [if_neg (by simp), hv, Option.bind_some]
  dsimp only
  by_cases e : v = 11
  ·obtain ⟨u, hu, u0, u1, _⟩ := pick_ok hb (q1 + 1) 5 (by omega) (by omega) (by omega)
   have u1 := u1 (by omega)
   rw [if_pos e, Option.bind_some, hu, Option.bind_some]
   dsimp only
   rw [if_pos u0, if_pos (by simp; omega)]
   refine ⟨_, _, rfl, by omega, by omega, ?_⟩
   exact (show ∀ s ∈ ([(⟨#[122, 122, 122, 122]⟩ : ByteArray), (⟨#[122, 122, 122]⟩ : ByteArray), (⟨#[97, 122, 122, 122]⟩ : ByteArray), (⟨#[122]⟩ : ByteArray), (⟨#[97, 97, 97, 97]⟩ : ByteArray)] : List ByteArray), s.size ≤ 5 by decide) _ (rdOf_mem u0 (by simp; omega))
  ·obtain ⟨u, hu, u0, u1, _⟩ := pick_ok hb (q1 + 1) 2 (by omega) (by omega) (by omega)
   have u1 := u1 (by omega)
   rw [if_neg e, hu, Option.bind_some]
   dsimp only
   rw [w64 (by omega) (by omega)]
   obtain ⟨r, q, hr, r0, r1, rs⟩ := l20Key_l0 hb (1 + u).toNat (⟨#[]⟩ : ByteArray) (1 + u) (q1 + 1 + 1) (by omega) (by show 0 + _ ≤ 1000; omega) (by omega) (by omega)
   refine ⟨r, q, hr, by omega, by omega, ?_⟩
   have : (⟨#[]⟩ : ByteArray).size = 0 := rfl
   omega

/-! #### l20Value -/
theorem l20Value_ok {b : List Int} (hb : Code b) (p n : Int) (hp : 0 ≤ p) (hp2 : p ≤ 100000000) (hn : n ≤ 1000000) : ∃ r q, spec_l20Value.fL b p n = some (r, q) ∧ p ≤ q ∧ q ≤ p + 3 ∧ -1 ≤ r ∧ r ≤ 1000 := by
 obtain ⟨o, q1, ho, o0, o1⟩ := odd_ok hb p n hp (by omega) hn
 rw [spec_l20Value.fL_eq, ho, Option.bind_some]
 dsimp only
 cases o with
 | true =>
  obtain ⟨v, hv, v0, v1, _⟩ := pick_ok hb q1 2 (by omega) (by omega) (by omega)
  have v1 := v1 (by omega)
  rw [if_pos rfl, Option.bind_some, hv, Option.bind_some]
  dsimp only
  rw [if_pos v0, if_pos (by simp; omega)]
  have := (show ∀ s ∈ ([(-1), 1000] : List Int), -1 ≤ s ∧ s ≤ 1000 by decide) _ (rd_mem v0 (by simp; omega))
  exact ⟨_, _, rfl, by omega, by omega, this.1, this.2⟩
 | false =>
  obtain ⟨v, hv, v0, v1, _⟩ := pick_ok hb q1 20 (by omega) (by omega) (by omega)
  have v1 := v1 (by omega)
  obtain ⟨u, hu, u0, u1, _⟩ := pick_ok hb (q1 + 1) 9 (by omega) (by omega) (by omega)
  have u1 := u1 (by omega)
  have hd : Int.tdiv u 8 = u / 8 := Int.tdiv_eq_ediv_of_nonneg u0
  rw [if_neg (by simp), hv, Option.bind_some]
  dsimp only
  rw [Option.bind_some, hu, Option.bind_some]
  dsimp only
  rw [hd, w64 (n := u / 8) (by omega) (by omega), if_pos (by omega), if_pos (by simp; omega)]
  have hm : rd [v, 999] (u / 8) ∈ [v, 999] := rd_mem (by omega) (by simp; omega)
  have : -1 ≤ rd [v, 999] (u / 8) ∧ rd [v, 999] (u / 8) ≤ 1000 := by
   simp only [List.mem_cons, List.not_mem_nil, or_false] at hm
   rcases hm with e | e <;> rw [e] <;> omega
  exact ⟨_, _, rfl, by omega, by omega, this.1, this.2⟩

/-! #### kfrom -/
/-- How many keys begin with the letters of a place, from a depth on. -/
def kfrom (d : Int) : Int := if d ≥ 4 then 1 else if d = 3 then 27 else if d = 2 then 703 else 18279
theorem kfrom_range (d : Int) : 1 ≤ kfrom d ∧ kfrom d ≤ 18279 := by unfold kfrom; split <;> (try split) <;> (try split) <;> omega

/-! #### spec_l1Weight -/
theorem spec_l1Weight_f (d : Int) (h0 : 0 ≤ d) : spec_l1Weight.f d = some (kfrom (d + 1)) := by
 unfold spec_l1Weight.f kfrom
 by_cases h1 : d = 0
 ·subst h1; rfl
 ·by_cases h2 : d = 1
  ·subst h2; rfl
  ·by_cases h3 : d = 2
   ·subst h3; rfl
   ·rw [if_neg h1, if_neg h2, if_neg h3, if_pos (by omega)]

/-! #### spec_KeyAt -/
theorem KeyAt_l0 : ∀ (n : Nat) (a : Int) (s : ByteArray) (i : Int), i + n = 4 → 0 ≤ i → 0 ≤ a → a ≤ 1000000 → s.size ≤ i → ∃ r, spec_KeyAt.l0L a s i = some r ∧ r.size ≤ 4
 | 0, a, s, i, hi, h0, ha, ha2, hs => by rw [spec_KeyAt.l0L_eq, if_neg (by omega)]; exact ⟨_, rfl, by omega⟩
 | n + 1, a, s, i, hi, h0, ha, ha2, hs => by
  have hk := kfrom_range (i + 1)
  have hl : ∀ x : Int, (strOfNums [x]).size = 1 := fun x => by rw [strOfNums_len]; rfl
  have ht := tmod_range ha (n := kfrom (i + 1)) (by omega)
  have hle : Int.tmod a (kfrom (i + 1)) ≤ a := by
   rw [Int.tmod_eq_emod_of_nonneg ha] at ht ⊢
   by_cases hlt : a < kfrom (i + 1)
   ·rw [Int.emod_eq_of_lt ha hlt]; omega
   ·omega
  rw [spec_KeyAt.l0L_eq, if_pos (by omega)]
  simp only [spec_l1Weight_f i h0, Option.bind_some]
  rw [if_neg (by omega), if_pos (by rw [hl]; omega), if_neg (by omega)]
  by_cases e : Int.tmod a (kfrom (i + 1)) = 0
  ·rw [if_pos e]; exact ⟨_, rfl, by rw [ByteArray.size_append, hl]; omega⟩
  ·rw [if_neg e, w64 (n := i + 1) (by omega) (by omega), w64 (n := Int.tmod a (kfrom (i + 1)) - 1) (by omega) (by omega)]
   exact KeyAt_l0 n _ _ (i + 1) (by omega) (by omega) (by omega) (by omega) (by rw [ByteArray.size_append, hl]; omega)
theorem KeyAt_ok (a : Int) (h1 : a ≤ 1000000) : ∃ s, spec_KeyAt.fL a = some s ∧ s.size ≤ 4 := by
 rw [spec_KeyAt.fL_eq, spec_l1In_f, Option.bind_some]
 by_cases h : 0 ≤ a ∧ a ≤ 475253
 ·rw [decide_eq_true h, if_pos rfl]
  exact KeyAt_l0 4 a _ 0 (by omega) (by omega) (by omega) (by omega) (by decide)
 ·rw [decide_eq_false h, if_neg (by simp)]
  exact ⟨_, rfl, by decide⟩

/-! #### pairmap -/
theorem toList_eq {a b : ByteArray} : a.toList = b.toList ↔ a = b := by
 rw [toList_data, toList_data]
 exact ⟨fun h => ByteArray.ext (Array.toList_inj.mp h), fun h => by rw [h]⟩
/-- Where a key is or belongs: how many pairs stand before it. -/
def place (k : ByteArray) : List S47 → Nat
 | [] => 0
 | y :: ys => if klt y.f0 k = true then place k ys + 1 else 0
theorem place_le (k : ByteArray) : ∀ l, place k l ≤ l.length
 | [] => Nat.le_refl _
 | y :: ys => by
  have := place_le k ys
  simp only [place, List.length_cons]
  split <;> omega
/-- Is the key there? -/
def hit (k : ByteArray) (l : List S47) : Bool := decide (place k l < l.length ∧ (rd_T47 l (place k l : Int)).f0 = k)
theorem hit_lt {k : ByteArray} {l : List S47} (h : hit k l = true) : place k l < l.length := (of_decide_eq_true h).1
theorem hit_key {k : ByteArray} {l : List S47} (h : hit k l = true) : (rd_T47 l (place k l : Int)).f0 = k := (of_decide_eq_true h).2
def pairPut (l : List S47) (k : ByteArray) (v : Int) : List S47 × Bool :=
 if pairsOk l = true ∧ keyOk (bs k) = true ∧ 0 ≤ v ∧ v ≤ 999 then
  (if hit k l = true then (l.take (place k l) ++ ⟨k, v⟩ :: l.drop (place k l + 1), true) else if 48 ≤ l.length then (l, false) else (l.take (place k l) ++ ⟨k, v⟩ :: l.drop (place k l), true))
 else ([], false)
theorem pairsOk_le {l : List S47} (h : pairsOk l = true) : l.length ≤ 48 := by
 simp only [pairsOk, Bool.and_eq_true, decide_eq_true_eq] at h; exact h.1
theorem pairPut_length (l : List S47) (k : ByteArray) (v : Int) : (pairPut l k v).1.length ≤ 48 := by
 unfold pairPut
 split
 ·rename_i h
  have h1 := pairsOk_le h.1
  have h2 := place_le k l
  split
  ·rename_i h3
   have := hit_lt h3
   simp; omega
  ·split
   ·exact h1
   ·simp; omega
 ·simp
theorem set_split {α : Type} (y : α) : ∀ (l : List α) (n : Nat), n < l.length → l.set n y = l.take n ++ y :: l.drop (n + 1)
 | [], n, h => by simp at h
 | x :: l, 0, h => by simp
 | x :: l, n + 1, h => by simp at h; simp [set_split y l n h]

/-! #### spec_pairmap -/
theorem spec_l4Place_l0 (xs : List S47) (k : ByteArray) (hx : xs.length ≤ 1000000000000) : ∀ (ys : List S47) (i : Int), 0 ≤ i → i ≤ xs.length → xs.drop i.toNat = ys → spec_l4Place.l0L xs k i = some (i + (place k ys : Int))
 | [], i, h0, h1, hd => by
  have := drop_nil h0 h1 hd
  rw [spec_l4Place.l0L_eq, if_neg (by omega)]; simp [place]
 | y :: ys, i, h0, h1, hd => by
  obtain ⟨hr0, hl, hd'⟩ := getD_cons (d := z47) h0 hd
  have hr : rd_T47 xs i = y := hr0
  rw [spec_l4Place.l0L_eq, if_pos hl, if_pos h0, hr]
  by_cases h : klt y.f0 k = true
  ·rw [if_pos (show Op.bytesLess y.f0.toList k.toList = true from h), w64 (by omega) (by omega), spec_l4Place_l0 xs k hx ys (i + 1) (by omega) (by omega) hd']
   simp only [place, if_pos h]
   congr 1; omega
  ·rw [if_neg (show ¬ Op.bytesLess y.f0.toList k.toList = true from h)]
   simp only [place, if_neg h]
   congr 1; omega
theorem spec_l4Place_f (xs : List S47) (k : ByteArray) (hx : xs.length ≤ 1000000000000) : spec_l4Place.fL xs k = some (place k xs : Int) := by
 rw [spec_l4Place.fL_eq, spec_l4Place_l0 xs k hx xs 0 (by omega) (by omega) (by simp)]
 congr 1; omega

/-! #### spec_PairPut -/
theorem spec_PairPut_f (xs : List S47) (k : ByteArray) (v : Int) (hx : xs.length ≤ 1000000000000) : spec_PairPut.fL xs k v = some (pairPut xs k v) := by
 have hj : ∀ y : List S47, spec_PairPut.j0L xs k v y true = some (y, false) := fun y => by rw [spec_PairPut.j0L_eq, if_pos rfl]
 rw [spec_PairPut.fL_eq, Option.bind_some, spec_PairsValid_f, Option.bind_some]
 unfold pairPut
 by_cases h1 : pairsOk xs = true
 ·rw [if_pos h1, spec_KeyValid_f, Option.bind_some]
  by_cases h2 : keyOk (bs k) = true
  ·rw [if_pos h2, spec_l1In_f, Option.bind_some]
   by_cases h3 : 0 ≤ v ∧ v ≤ 999
   ·have hp := place_le k xs
    rw [if_pos ⟨h1, h2, h3⟩, decide_eq_true h3, Bool.not_true, spec_PairPut.j0L_eq, if_neg (by simp), spec_l4Place_f xs k hx, Option.bind_some]
    have hj1 : ∀ b : Bool, (hit k xs = b) → spec_PairPut.j1L xs k v [] (place k xs : Int) b = some (if hit k xs = true then (xs.take (place k xs) ++ ⟨k, v⟩ :: xs.drop (place k xs + 1), true) else if 48 ≤ xs.length then (xs, false) else (xs.take (place k xs) ++ ⟨k, v⟩ :: xs.drop (place k xs), true)) := by
     intro b hb
     rw [spec_PairPut.j1L_eq, hb]
     cases b with
     | true =>
      have hl := hit_lt hb
      have hk := hit_key hb
      rw [if_pos rfl, if_pos (by simp; omega), Option.bind_some, if_pos (by omega), if_pos (by simp; omega), if_pos rfl]
      rw [List.nil_append, hk, Int.toNat_natCast, set_split _ _ _ hl]
     | false =>
      rw [if_neg (by simp), if_neg (show ¬ (false = true) by simp)]
      by_cases h4 : 48 ≤ xs.length
      ·rw [if_pos (by omega), if_pos (by simp; omega), if_pos h4]; simp
      ·have e1 : (([] : List S47) ++ xs.take (place k xs)).length ≤ 1000000000000 := by simp; omega
       have e2 : (([] : List S47) ++ xs.take (place k xs) ++ [(⟨k, v⟩ : S47)]).length ≤ 1000000000000 := by simp; omega
       rw [if_neg (by omega), if_neg h4, if_pos (by omega), if_pos (by omega), Int.toNat_natCast, Option.bind_some, if_pos (by simp; omega), Option.bind_some, if_pos (by omega), Option.bind_some, Option.bind_some, if_pos (by simp; omega)]
       simp
    by_cases e : (place k xs : Int) < (xs.length : Int)
    ·rw [if_pos e, if_pos (by omega)]
     refine hj1 _ ?_
     unfold hit
     by_cases e2 : (rd_T47 xs (place k xs : Int)).f0 = k
     ·rw [decide_eq_true ⟨by omega, e2⟩, e2]; simp
     ·rw [decide_eq_false (fun h => e2 h.2)]
      symm; rw [beq_eq_false_iff_ne]; intro h; exact e2 (toList_eq.1 h)
    ·rw [if_neg e]
     refine hj1 _ ?_
     unfold hit
     rw [decide_eq_false (fun h => e (by omega))]
   ·rw [decide_eq_false h3, Bool.not_false, hj, if_neg (fun h => h3 h.2.2)]
  ·rw [if_neg h2, hj, if_neg (fun h => h2 h.2.1)]
 ·rw [if_neg h1, hj, if_neg (fun h => h1 h.1)]

/-! #### l20Pairs -/
theorem l20Pairs_j3 {b : List Int} (hb : Code b) (n : Int) (out : List S47) (p : Int) (hp : 0 ≤ p) (hp2 : p ≤ 200000000) (hn : n ≤ 1000000) (ho : out.length ≤ 48) : ∃ r q, spec_l20Pairs.j3L n out b p = some (r, q) ∧ p ≤ q ∧ q ≤ p + 2 ∧ r.length ≤ 49 := by
 obtain ⟨o, q1, ho1, o0, o1⟩ := odd_ok hb p n hp (by omega) hn
 rw [spec_l20Pairs.j3L_eq, ho1, Option.bind_some]
 dsimp only
 cases o with
 | true =>
  obtain ⟨v, hv, v0, v1, _⟩ := pick_ok hb q1 5 (by omega) (by omega) (by omega)
  have v1 := v1 (by omega)
  rw [if_pos rfl, Option.bind_some, hv, Option.bind_some]
  dsimp only
  rw [if_pos v0, if_pos (by simp; omega), if_pos (by omega)]
  exact ⟨_, _, rfl, by omega, by omega, by simp; omega⟩
 | false =>
  rw [if_neg (by simp)]
  exact ⟨_, _, rfl, by omega, by omega, by omega⟩
theorem l20Pairs_l1 {b : List Int} (hb : Code b) (n : Int) (hn : n ≤ 1000000) (p : Int) (hp : 0 ≤ p) (hp2 : p ≤ 200000000) : ∀ (m : Nat) (out : List S47) (i : Int), i + m = 200 → 0 ≤ i → out.length ≤ 48 → ∃ r q, spec_l20Pairs.l1L n out i b p = some (r, q) ∧ p ≤ q ∧ q ≤ p + 2 ∧ r.length ≤ 49
 | m, out, i, hi, h0, ho => by
  obtain ⟨r, q, hr, h⟩ := l20Pairs_j3 hb n out p hp hp2 hn ho
  have hj : spec_l20Pairs.j2L n out i false b p = some (r, q) := by rw [spec_l20Pairs.j2L_eq, if_neg (by simp)]; exact hr
  rw [spec_l20Pairs.l1L_eq]
  by_cases e : (out.length : Int) < 48
  ·rw [if_pos e]
   match m with
   | 0 => rw [decide_eq_false (by omega)]; exact ⟨r, q, hj, h⟩
   | m + 1 =>
    obtain ⟨s, hs, _⟩ := KeyAt_ok (i * 9) (by omega)
    rw [decide_eq_true (by omega), spec_l20Pairs.j2L_eq, if_pos rfl, w64 (n := i * 9) (by omega) (by omega), hs, Option.bind_some, spec_PairPut_f out s i (by omega), Option.bind_some, w64 (by omega) (by omega)]
    exact l20Pairs_l1 hb n hn p hp hp2 m _ (i + 1) (by omega) (by omega) (pairPut_length _ _ _)
  ·rw [if_neg e]; exact ⟨r, q, hj, h⟩
theorem l20Pairs_l0 {b : List Int} (hb : Code b) (n : Int) (hn : n ≤ 1000000) : ∀ (m : Nat) (out : List S47) (i p : Int), i = m → m ≤ 100 → 0 ≤ p → p + 8 * m ≤ 90001000 → out.length ≤ 48 → ∃ r q, spec_l20Pairs.l0L n out i b p = some (r, q) ∧ p ≤ q ∧ q ≤ p + 8 * m + 3 ∧ r.length ≤ 49
 | 0, out, i, p, hi, hm, hp, hp2, ho => by
  obtain ⟨v, hv, v0, v1, _⟩ := pick_ok hb p 16 hp (by omega) (by omega)
  rw [spec_l20Pairs.l0L_eq, if_neg (by omega), hv, Option.bind_some]
  dsimp only
  by_cases e : v = 15
  ·rw [if_pos e]
   obtain ⟨r, q, hr, h1, h2, h3⟩ := l20Pairs_l1 hb n hn (p + 1) (by omega) (by omega) 200 out 0 (by omega) (by omega) ho
   exact ⟨r, q, hr, by omega, by omega, h3⟩
  ·rw [if_neg e]
   obtain ⟨r, q, hr, h1, h2, h3⟩ := l20Pairs_j3 hb n out (p + 1) (by omega) (by omega) hn ho
   exact ⟨r, q, hr, by omega, by omega, h3⟩
 | m + 1, out, i, p, hi, hm, hp, hp2, ho => by
  obtain ⟨s, q1, hs, s0, s1, _⟩ := l20Key_ok hb p 0 hp (by omega) (by omega)
  obtain ⟨v, q2, hv, v0, v1, _, _⟩ := l20Value_ok hb q1 0 (by omega) (by omega) (by omega)
  rw [spec_l20Pairs.l0L_eq, if_pos (by omega), hs, Option.bind_some]
  dsimp only
  rw [hv, Option.bind_some]
  dsimp only
  rw [spec_PairPut_f out s v (by omega), Option.bind_some, w64 (by omega) (by omega)]
  obtain ⟨r, q, hr, h1, h2, h3⟩ := l20Pairs_l0 hb n hn m (pairPut out s v).1 (i - 1) q2 (by omega) (by omega) (by omega) (by omega) (pairPut_length _ _ _)
  exact ⟨r, q, hr, by omega, by omega, h3⟩
theorem l20Pairs_ok {b : List Int} (hb : Code b) (p n : Int) (hp : 0 ≤ p) (hp2 : p ≤ 90000000) (hn : n ≤ 1000000) : ∃ r q, spec_l20Pairs.fL b p n = some (r, q) ∧ p ≤ q ∧ q ≤ p + 100 ∧ r.length ≤ 49 := by
 obtain ⟨v, hv, v0, v1, _⟩ := pick_ok hb p 9 hp (by omega) (by omega)
 have v1 := v1 (by omega)
 rw [spec_l20Pairs.fL_eq, hv, Option.bind_some]
 dsimp only
 obtain ⟨r, q, hr, h1, h2, h3⟩ := l20Pairs_l0 hb n hn v.toNat [] v (p + 1) (by omega) (by omega) (by omega) (by omega) (by simp)
 exact ⟨r, q, hr, by omega, by omega, h3⟩

/-! #### keyrank -/
def rankBelow : List Int → Int → Int
 | [], _ => 0
 | b :: l, d => 1 + (b - 97) * kfrom d + rankBelow l (d + 1)
def keyRank (l : List Int) : Int := if keyOk l = true then rankBelow l 1 - 1 else -1
theorem impl_keysFrom_f (d : Int) (h1 : 1 ≤ d) (h2 : d ≤ 10) : impl_keysFrom.fL d = some (kfrom d) := by
 have h4 : ∀ e : Int, e ≥ 4 → impl_keysFrom.fL e = some 1 := fun e he => by rw [impl_keysFrom.fL_eq, if_pos he]
 have h3 : impl_keysFrom.fL 3 = some 27 := by
  rw [impl_keysFrom.fL_eq, if_neg (by omega), w64 (by omega) (by omega), show (3 : Int) + 1 = 4 from rfl, h4 4 (by omega)]; simp [wrap64]
 have h2' : impl_keysFrom.fL 2 = some 703 := by
  rw [impl_keysFrom.fL_eq, if_neg (by omega), w64 (by omega) (by omega), show (2 : Int) + 1 = 3 from rfl, h3]; simp [wrap64]
 have h1' : impl_keysFrom.fL 1 = some 18279 := by
  rw [impl_keysFrom.fL_eq, if_neg (by omega), w64 (by omega) (by omega), show (1 : Int) + 1 = 2 from rfl, h2']; simp [wrap64]
 unfold kfrom
 by_cases e : d ≥ 4
 ·rw [h4 d e, if_pos e]
 ·rw [if_neg e]
  by_cases e3 : d = 3
  ·rw [if_pos e3, e3, h3]
  ·rw [if_neg e3]
   by_cases e2 : d = 2
   ·rw [if_pos e2, e2, h2']
   ·rw [if_neg e2, show d = 1 by omega, h1']
theorem rankBelow_range : ∀ (l : List Int) (d : Int), letters l = true → 0 ≤ rankBelow l d ∧ rankBelow l d ≤ 500000 * l.length
 | [], d, _ => by simp [rankBelow]
 | b :: l, d, h => by
  obtain ⟨hb, hl⟩ := letters_cons h
  have hr := rankBelow_range l (d + 1) hl
  have hk := kfrom_range d
  have m1 : 0 ≤ (b - 97) * kfrom d := Int.mul_nonneg (by omega) (by omega)
  have m2 : (b - 97) * kfrom d ≤ 25 * 18279 := Int.mul_le_mul (by omega) hk.2 (by omega) (by omega)
  simp only [rankBelow, List.length_cons]
  omega
theorem impl_rankBelow_f : ∀ (l : List Int) (s : ByteArray) (d : Int), bs s = l → letters l = true → l.length ≤ 4 → 1 ≤ d → d + l.length ≤ 6 → impl_rankBelow.fL s d = some (rankBelow l d)
 | [], s, d, h, _, _, _, _ => by rw [impl_rankBelow.fL_eq, if_pos ((toList_nil s).2 h)]; rfl
 | b :: l, s, d, h, hl, hn, hd, hd2 => by
  simp only [List.length_cons] at hn hd2
  obtain ⟨hb, hl'⟩ := letters_cons hl
  have hs : s.size = l.length + 1 := by rw [← bs_length, h]; rfl
  have hnn : ¬ s.toList = [] := by rw [toList_nil, h]; simp
  have hdr : bs (s.extract 1 s.size) = l := by rw [bs_drop s 1 s.size (Nat.le_refl _), h]; rfl
  have hk := kfrom_range d
  have hr := rankBelow_range l (d + 1) hl'
  have m1 : 0 ≤ (b - 97) * kfrom d := Int.mul_nonneg (by omega) (by omega)
  have m2 : (b - 97) * kfrom d ≤ 25 * 18279 := Int.mul_le_mul (by omega) hk.2 (by omega) (by omega)
  rw [impl_rankBelow.fL_eq, if_neg hnn, if_pos (by omega), impl_keysFrom_f d hd (by omega), Option.bind_some, if_pos (by omega), w64 (n := d + 1) (by omega) (by omega),
   impl_rankBelow_f l _ (d + 1) hdr hl' (by omega) (by omega) (by omega), Option.bind_some, bt_bs, rd_zero h, Int.emod_eq_of_lt (a := b - 97) (by omega) (by omega),
   w64 (n := (b - 97) * kfrom d) (by omega) (by omega), w64 (n := 1 + (b - 97) * kfrom d) (by omega) (by omega), w64 (by omega) (by omega)]
  rfl
theorem impl_KeyRank_f (s : ByteArray) : impl_KeyRank.fL s = some (keyRank (bs s)) := by
 rw [impl_KeyRank.fL_eq, impl_KeyValid_f, Option.bind_some]
 unfold keyRank
 by_cases h : keyOk (bs s) = true
 ·have hn := keyOk_len h
  have hr := rankBelow_range (bs s) 1 (keyOk_letters h)
  rw [if_pos h, if_pos h, impl_rankBelow_f _ s 1 rfl (keyOk_letters h) hn.2 (by omega) (by omega), Option.bind_some, w64 (by omega) (by omega)]
 ·rw [if_neg h, if_neg h]

/-! #### alive -/
theorem laws_alive_f : laws_alive.fL = some true := by
 rw [laws_alive.fL_eq, impl_KeyRank_f, impl_KeyRank_f]
 rfl

/-! #### intS -/
/-! #### loops -/
/-! #### refl_loop -/
theorem refl_loop (n : Nat) (L : Int → Option Bool) (hL : ∀ i : Int, 0 ≤ i → i ≤ n → L i = if i < (n : Int) then L (i + 1) else some true) : ∀ (m : Nat) (i : Int), i + m = n → 0 ≤ i → L i = some true
 | 0, i, h, h0 => by rw [hL i h0 (by omega), if_neg (by omega)]
 | m + 1, i, h, h0 => by rw [hL i h0 (by omega), if_pos (by omega)]; exact refl_loop n L hL m (i + 1) (by omega) (by omega)
theorem refl_loop0 (n : Nat) (L : Int → Option Bool) (hL : ∀ i : Int, 0 ≤ i → i ≤ n → L i = if i < (n : Int) then L (i + 1) else some true) : L 0 = some true := refl_loop n L hL n 0 (by omega) (by omega)

/-! #### sameRefl -/
theorem samePairs_refl (xs : List S47) (hx : xs.length ≤ 1000000000000) : laws_samePairs.fL xs xs = some true := by
 rw [laws_samePairs.fL_eq, if_pos rfl]
 refine refl_loop0 xs.length (fun i => laws_samePairs.l0L xs xs i) (fun i h0 h1 => ?_)
 rw [laws_samePairs.l0L_eq]
 by_cases h : i < (xs.length : Int)
 ·rw [if_pos h, if_pos h0, if_pos h, if_neg (by simp), w64 (by omega) (by omega), if_pos h]
 ·rw [if_neg h, if_neg h]
end Go.Proofs.YtagknifdfpjlbaaDoor.Pure
