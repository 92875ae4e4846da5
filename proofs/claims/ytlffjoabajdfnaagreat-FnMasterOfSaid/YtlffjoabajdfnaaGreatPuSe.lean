/- Sessions: valid lists, where a client's session stands, SessionPut. No condition. -/
import Derived.Test.YtlffjoabajdfnaaGreatPuPa
set_option linter.unusedVariables false
set_option linter.unusedSimpArgs false
namespace Go.Proofs.YtlffjoabajdfnaaGreat.Ev
open Go.Proofs.YtlffjoabajdfnaaGreat.Eng
open Go.RowKit (wrap64)
def sessItem (y : impl_Session) : Bool := decide (0 ≤ y.Client ∧ y.Client ≤ 3) && decide (1 ≤ y.Seq ∧ y.Seq ≤ 999) && decide (-2 ≤ y.Reply ∧ y.Reply ≤ 999)
def sessFrom : Int → List impl_Session → Bool
  | _, [] => true
  | p, y :: ys => sessItem y && decide (p < y.Client) && sessFrom y.Client ys
def sessOk (l : List impl_Session) : Bool := sessFrom (-1) l
theorem sessItem_iff (y : impl_Session) : sessItem y = true ↔ (0 ≤ y.Client ∧ y.Client ≤ 3) ∧ (1 ≤ y.Seq ∧ y.Seq ≤ 999) ∧ (-2 ≤ y.Reply ∧ y.Reply ≤ 999) := by
  unfold sessItem; rw [Bool.and_eq_true, Bool.and_eq_true, decide_eq_true_eq, decide_eq_true_eq, decide_eq_true_eq, and_assoc]
theorem sessFrom_iff : ∀ (l : List impl_Session) (p : Int), sessFrom p l = true ↔ (∀ y ∈ l, sessItem y = true ∧ p < y.Client) ∧ l.Pairwise (fun a b => a.Client < b.Client)
  | [], p => by simp [sessFrom]
  | x :: l, p => by
    have ih := sessFrom_iff l x.Client
    simp only [sessFrom, Bool.and_eq_true, decide_eq_true_eq, List.pairwise_cons, List.mem_cons]
    constructor
    · intro h
      obtain ⟨h1, h2⟩ := ih.1 h.2
      refine ⟨fun c hc => ?_, fun c hc => (h1 c hc).2, h2⟩
      rcases hc with rfl | hc
      · exact h.1
      · exact ⟨(h1 c hc).1, by have := (h1 c hc).2; omega⟩
    · intro h
      exact ⟨h.1 x (Or.inl rfl), ih.2 ⟨fun c hc => ⟨(h.1 c (Or.inr hc)).1, h.2.1 c hc⟩, h.2.2⟩⟩
theorem sessFrom_len : ∀ (l : List impl_Session) (p : Int), p ≤ 3 → sessFrom p l = true → (l.length : Int) + p ≤ 3
  | [], p, h, _ => by simp; exact h
  | x :: l, p, h, hs => by
    simp only [sessFrom, Bool.and_eq_true, decide_eq_true_eq] at hs
    have hi := (sessItem_iff x).1 hs.1.1
    have := sessFrom_len l x.Client hi.1.2 hs.2
    simp only [List.length_cons]; omega
theorem sessOk_len {l : List impl_Session} (h : sessOk l = true) : l.length ≤ 4 := by
  have := sessFrom_len l (-1) (by omega) h; omega
theorem sessOk_iff (l : List impl_Session) : sessOk l = true ↔ (∀ y ∈ l, sessItem y = true) ∧ l.Pairwise (fun a b => a.Client < b.Client) := by
  unfold sessOk
  rw [sessFrom_iff]
  constructor
  · rintro ⟨h1, h2⟩; exact ⟨fun y hy => (h1 y hy).1, h2⟩
  · rintro ⟨h1, h2⟩; exact ⟨fun y hy => ⟨h1 y hy, by have := ((sessItem_iff y).1 (h1 y hy)).1; omega⟩, h2⟩
def splace (c : Int) : List impl_Session → Nat
  | [] => 0
  | y :: ys => if y.Client < c then splace c ys + 1 else 0
theorem splace_le (c : Int) : ∀ l, splace c l ≤ l.length
  | [] => Nat.le_refl _
  | y :: ys => by
    have := splace_le c ys
    simp only [splace, List.length_cons]
    split <;> omega
def shit (c : Int) (l : List impl_Session) : Bool := decide (splace c l < l.length ∧ (rdAt l (Int.toNat (splace c l : Int)) z_impl_Session).Client = c)
def sessOf (l : List impl_Session) (c : Int) : impl_Session := if shit c l = true then rdAt l (Int.toNat (splace c l : Int)) z_impl_Session else ⟨0, 0, 0⟩
def sessPut (l : List impl_Session) (s : impl_Session) : List impl_Session × Bool :=
  if sessOk l = true ∧ sessItem s = true then
    (if shit s.Client l = true then (if (rdAt l (Int.toNat (splace s.Client l : Int)) z_impl_Session).Seq ≥ s.Seq then (l, false) else (l.take (splace s.Client l) ++ s :: l.drop (splace s.Client l + 1), true))
     else (l.take (splace s.Client l) ++ s :: l.drop (splace s.Client l), true))
  else ([], false)
theorem sessPut_length (l : List impl_Session) (s : impl_Session) : (sessPut l s).1.length ≤ 5 := by
  unfold sessPut
  split
  · rename_i h
    have h1 := sessOk_len h.1
    have h2 := splace_le s.Client l
    split
    · split
      · show l.length ≤ 5; omega
      · simp; omega
    · simp; omega
  · simp
theorem splace_app {c : Int} {B : List impl_Session} (h2 : ∀ y ∈ B, c ≤ y.Client) : ∀ {A : List impl_Session}, (∀ y ∈ A, y.Client < c) → splace c (A ++ B) = A.length
  | [], _ => by
    cases B with
    | nil => rfl
    | cons y B => have := h2 y List.mem_cons_self; simp only [List.nil_append, splace]; rw [if_neg (by omega)]; rfl
  | x :: A, h1 => by
    simp only [List.cons_append, splace]
    rw [if_pos (h1 x List.mem_cons_self), splace_app h2 (fun y hy => h1 y (List.mem_cons_of_mem _ hy))]; rfl
theorem srd_app (A B : List impl_Session) (y : impl_Session) : rdAt (A ++ y :: B) (Int.toNat (A.length : Int)) z_impl_Session = y := by
  unfold rdAt
  rw [Int.toNat_natCast, List.getD_eq_getElem?_getD, List.getElem?_append_right (Nat.le_refl _)]; simp
theorem sess_split (c : Int) : ∀ l : List impl_Session, l.Pairwise (fun a b => a.Client < b.Client) → (∃ A B y, l = A ++ y :: B ∧ y.Client = c ∧ (∀ y ∈ A, y.Client < c) ∧ (∀ y ∈ B, c < y.Client)) ∨ (∃ A B, l = A ++ B ∧ (∀ y ∈ A, y.Client < c) ∧ (∀ y ∈ B, c < y.Client))
  | [], _ => .inr ⟨[], [], rfl, (fun y hy => by cases hy), (fun y hy => by cases hy)⟩
  | x :: l, h => by
    rw [List.pairwise_cons] at h
    by_cases e : x.Client < c
    · have hA : ∀ A : List impl_Session, (∀ y ∈ A, y.Client < c) → ∀ y ∈ x :: A, y.Client < c := fun A hA y hy => by
        rcases List.mem_cons.1 hy with rfl | hy
        · exact e
        · exact hA y hy
      rcases sess_split c l h.2 with ⟨A, B, y, rfl, h0, h1, h2⟩ | ⟨A, B, rfl, h1, h2⟩
      · exact .inl ⟨x :: A, B, y, rfl, h0, hA A h1, h2⟩
      · exact .inr ⟨x :: A, B, rfl, hA A h1, h2⟩
    · by_cases e2 : x.Client = c
      · exact .inl ⟨[], l, x, rfl, e2, (fun y hy => by cases hy), fun y hy => by have := h.1 y hy; omega⟩
      · refine .inr ⟨[], x :: l, rfl, (fun y hy => by cases hy), fun y hy => ?_⟩
        rcases List.mem_cons.1 hy with rfl | hy
        · omega
        · have := h.1 y hy; omega
theorem shit_app {c : Int} {A B : List impl_Session} {y : impl_Session} (h0 : y.Client = c) (h1 : ∀ y ∈ A, y.Client < c) (h2 : ∀ y ∈ B, c < y.Client) : splace c (A ++ y :: B) = A.length ∧ shit c (A ++ y :: B) = true := by
  have hp : splace c (A ++ y :: B) = A.length := splace_app (fun z hz => by
    rcases List.mem_cons.1 hz with rfl | hz
    · omega
    · have := h2 z hz; omega) h1
  refine ⟨hp, ?_⟩
  unfold shit; rw [hp, srd_app]; simp [h0]
theorem snohit_app {c : Int} {A B : List impl_Session} (h1 : ∀ y ∈ A, y.Client < c) (h2 : ∀ y ∈ B, c < y.Client) : splace c (A ++ B) = A.length ∧ shit c (A ++ B) = false := by
  have hp : splace c (A ++ B) = A.length := splace_app (fun z hz => by have := h2 z hz; omega) h1
  refine ⟨hp, ?_⟩
  unfold shit; rw [hp]
  cases B with
  | nil => simp
  | cons y B =>
    rw [srd_app, decide_eq_false]
    rintro ⟨_, e⟩
    have := h2 y List.mem_cons_self
    omega
theorem spec_SessionsValid_l (xs : List impl_Session) (hx : xs.length ≤ 1000000000000) : ∀ (ys : List impl_Session) (i p : Int), 0 ≤ i → i ≤ xs.length → xs.drop i.toNat = ys → (i = 0 → p = -1) → (0 < i → p = (rdAt xs (Int.toNat (i - 1)) z_impl_Session).Client) → spec_SessionsValid_2 xs i = some (sessFrom p ys, ())
  | [], i, p, h0, h1, hd, hp0, hp1 => by
    have := drop_nil h0 h1 hd
    rw [spec_SessionsValid_2_eq, cond_dec, if_neg (by omega)]; rfl
  | y :: ys, i, p, h0, h1, hd, hp0, hp1 => by
    obtain ⟨hr, hl, hd'⟩ := rd_drop (d := z_impl_Session) h0 hd
    have ih := spec_SessionsValid_l xs hx ys (i + 1) y.Client (by omega) (by omega) hd' (fun h => by omega) (fun _ => by rw [show i + 1 - 1 = i by omega, hr])
    rw [spec_SessionsValid_2_eq]
    simp only [cond_dec, if_pos hl, if_pos h0, hr, w64 (n := i + 1) (by omega) (by omega), w64 (n := i - 1) (by omega) (by omega), ih, spec_l1In_f, Option.bind_some, sessFrom, sessItem]
    by_cases c1 : 0 ≤ y.Client ∧ y.Client ≤ 3
    · rw [decide_eq_true c1]
      by_cases c2 : 1 ≤ y.Seq ∧ y.Seq ≤ 999
      · rw [decide_eq_true c2]
        by_cases c3 : -2 ≤ y.Reply ∧ y.Reply ≤ 999
        · rw [decide_eq_true c3]
          by_cases hi : 0 < i
          · simp only [if_pos hi, if_pos (show 0 ≤ i - 1 by omega), if_pos (show i - 1 < (xs.length : Int) by omega), ← hp1 hi]
            by_cases e : y.Client ≤ p
            · rw [if_pos e, decide_eq_false (p := p < y.Client) (by omega)]; rfl
            · rw [if_neg e, decide_eq_true (p := p < y.Client) (by omega)]; rfl
          · rw [if_neg hi, hp0 (by omega), decide_eq_true (p := -1 < y.Client) (by omega)]; rfl
        · rw [decide_eq_false c3]; simp
      · rw [decide_eq_false c2]; simp
    · rw [decide_eq_false c1]; simp
theorem spec_SessionsValid_f (xs : List impl_Session) (hx : xs.length ≤ 1000000000000) : spec_SessionsValid xs = some (sessOk xs, ()) := by
  rw [spec_SessionsValid_eq, spec_SessionsValid_l xs hx xs 0 (-1) (by omega) (by omega) rfl (fun _ => rfl) (fun h => by omega)]; rfl
def sfind (c : Int) : List impl_Session → impl_Session
  | [] => ⟨0, 0, 0⟩
  | y :: ys => if y.Client = c then y else sfind c ys
theorem spec_l9Find_l (xs : List impl_Session) (c : Int) (hx : xs.length ≤ 1000000000000) (s0 : impl_Session) : ∀ (ys : List impl_Session) (i : Int), 0 ≤ i → i ≤ xs.length → xs.drop i.toNat = ys → spec_l9Find_2 xs c i s0 = some (sfind c ys, ())
  | [], i, h0, h1, hd => by
    have := drop_nil h0 h1 hd
    rw [spec_l9Find_2_eq, cond_dec, if_neg (by omega)]; rfl
  | y :: ys, i, h0, h1, hd => by
    obtain ⟨hr, hl, hd'⟩ := rd_drop (d := z_impl_Session) h0 hd
    rw [spec_l9Find_2_eq]
    simp only [cond_dec, if_pos hl, if_pos h0, hr, w64 (n := i + 1) (by omega) (by omega), spec_l9Find_l xs c hx s0 ys (i + 1) (by omega) (by omega) hd', sfind]
    by_cases e : y.Client = c
    · rw [if_pos e, if_pos e]
    · rw [if_neg e, if_neg e]
theorem sfind_skip (c : Int) (B : List impl_Session) : ∀ A : List impl_Session, (∀ y ∈ A, y.Client < c) → sfind c (A ++ B) = sfind c B
  | [], _ => rfl
  | x :: A, h => by
    have := h x List.mem_cons_self
    simp only [List.cons_append, sfind]
    rw [if_neg (by omega)]; exact sfind_skip c B A (fun y hy => h y (List.mem_cons_of_mem _ hy))
theorem sfind_none (c : Int) : ∀ B : List impl_Session, (∀ y ∈ B, c < y.Client) → sfind c B = ⟨0, 0, 0⟩
  | [], _ => rfl
  | x :: B, h => by
    have := h x List.mem_cons_self
    simp only [sfind]
    rw [if_neg (by omega)]; exact sfind_none c B (fun y hy => h y (List.mem_cons_of_mem _ hy))
theorem sfind_is (c : Int) (l : List impl_Session) (h : sessOk l = true) : sfind c l = sessOf l c := by
  unfold sessOf
  rcases sess_split c l ((sessOk_iff l).1 h).2 with ⟨A, B, y, rfl, h0, h1, h2⟩ | ⟨A, B, rfl, h1, h2⟩
  · obtain ⟨hp, hs⟩ := shit_app h0 h1 h2
    rw [if_pos hs, hp, srd_app, sfind_skip c _ A h1]
    simp only [sfind]; rw [if_pos h0]
  · obtain ⟨hp, hs⟩ := snohit_app h1 h2
    rw [if_neg (by rw [hs]; simp), sfind_skip c _ A h1, sfind_none c B h2]
theorem spec_l9Find_f (xs : List impl_Session) (c : Int) (h : sessOk xs = true) : spec_l9Find xs c = some (sessOf xs c, ()) := by
  have h4 := sessOk_len h
  rw [spec_l9Find_eq, spec_l9Find_l xs c (by omega) _ xs 0 (by omega) (by omega) rfl, sfind_is c xs h]
def sputL (s : impl_Session) : Bool → List impl_Session → List impl_Session
  | c, [] => if c = true then [] else [s]
  | c, y :: ys => (if c = false ∧ y.Client ≥ s.Client then [s] else []) ++ (if y.Client = s.Client then [] else [y]) ++ sputL s (c || decide (y.Client ≥ s.Client)) ys
theorem spec_SessionPut_l (xs : List impl_Session) (hx : xs.length ≤ 100000) (s : impl_Session) : ∀ (ys : List impl_Session) (i : Int) (b : List impl_Session) (c : Bool), 0 ≤ i → i ≤ xs.length → b.length ≤ 2 * i → xs.drop i.toNat = ys → spec_SessionPut_8 xs c i s b = some ((b ++ sputL s c ys, (true, ())), ())
  | [], i, b, c, h0, h1, hb, hd => by
    have := drop_nil h0 h1 hd
    rw [spec_SessionPut_8_eq, cond_dec, if_neg (by omega), ble_row (by simp; omega) (by omega)]
    cases c <;> simp [sputL]
  | y :: ys, i, b, c, h0, h1, hb, hd => by
    obtain ⟨hr, hl, hd'⟩ := rd_drop (d := z_impl_Session) h0 hd
    have ih := fun (b' : List impl_Session) (c' : Bool) (h : b'.length ≤ 2 * (i + 1)) => spec_SessionPut_l xs hx s ys (i + 1) b' c' (by omega) (by omega) h hd'
    have j : ∀ (b' : List impl_Session) (c' : Bool), b'.length ≤ 2 * i + 1 → spec_SessionPut_13 xs c' i s b' = some ((b' ++ ((if y.Client = s.Client then [] else [y]) ++ sputL s c' ys), (true, ())), ()) := by
      intro b' c' hb'
      rw [spec_SessionPut_13_eq]
      simp only [cond_dec, if_pos hl, if_pos h0, hr, w64 (n := i + 1) (by omega) (by omega)]
      rw [ble_row (n := b'.length + [y].length) (by simp; omega) (by omega)]
      by_cases q : y.Client = s.Client
      · rw [decide_eq_true q, if_pos q, Bool.not_true, cond_false, ih _ _ (by omega)]; simp
      · rw [decide_eq_false q, if_neg q, Bool.not_false, cond_true, cond_true, ih _ _ (by simp; omega)]; simp
    rw [spec_SessionPut_8_eq]
    simp only [cond_dec, if_pos hl, if_pos h0, hr]
    rw [ble_row (n := b.length + [s].length) (by simp; omega) (by omega), cond_true, j b c (by omega), j (b ++ [s]) true (by simp; omega)]
    simp only [sputL]
    cases c with
    | true => simp
    | false =>
      rw [Bool.not_false, cond_true, Bool.false_or]
      by_cases q : s.Client ≤ y.Client
      · rw [if_pos q, if_pos (show false = false ∧ y.Client ≥ s.Client from ⟨rfl, q⟩), decide_eq_true (show y.Client ≥ s.Client from q)]; simp
      · rw [if_neg q, if_neg (show ¬ (false = false ∧ y.Client ≥ s.Client) from fun k => q k.2), decide_eq_false (show ¬ y.Client ≥ s.Client from q)]; simp
theorem sputL_skip (s : impl_Session) (B : List impl_Session) : ∀ A : List impl_Session, (∀ y ∈ A, y.Client < s.Client) → sputL s false (A ++ B) = A ++ sputL s false B
  | [], _ => rfl
  | x :: A, h => by
    have := h x List.mem_cons_self
    simp only [List.cons_append, sputL]
    rw [if_neg (fun q => by omega), if_neg (by omega), decide_eq_false (by omega), Bool.or_false, sputL_skip s B A (fun y hy => h y (List.mem_cons_of_mem _ hy))]; rfl
theorem sputL_rest (s : impl_Session) : ∀ B : List impl_Session, (∀ y ∈ B, s.Client < y.Client) → sputL s true B = B
  | [], _ => rfl
  | x :: B, h => by
    have := h x List.mem_cons_self
    simp only [sputL]
    rw [if_neg (fun q => by cases q.1), if_neg (by omega), Bool.true_or, sputL_rest s B (fun y hy => h y (List.mem_cons_of_mem _ hy))]; rfl
theorem sessOk_one (s : impl_Session) : sessOk [s] = sessItem s := by
  cases h : sessItem s with
  | true => exact (sessOk_iff _).2 ⟨fun y hy => by simp at hy; rw [hy]; exact h, by simp⟩
  | false =>
    cases h2 : sessOk [s] with
    | false => rfl
    | true => have := ((sessOk_iff _).1 h2).1 s (by simp); rw [h] at this; cases this
theorem spec_SessionPut_f (xs : List impl_Session) (s : impl_Session) (hx : xs.length ≤ 1000000000000) : spec_SessionPut xs s = some (((sessPut xs s).1, ((sessPut xs s).2, ())), ()) := by
  rw [spec_SessionPut_eq, spec_SessionsValid_f xs hx, Option.bind_some, spec_SessionsValid_f _ (by simp), Option.bind_some, sessOk_one]
  unfold sessPut
  cases h1 : sessOk xs with
  | false => simp
  | true =>
    have h4 := sessOk_len h1
    cases h2 : sessItem s with
    | false => simp
    | true =>
      have hi := (sessItem_iff _).1 h2
      have hs : spec_SessionSeq xs s.Client = some ((sessOf xs s.Client).Seq, ()) := by
        rw [spec_SessionSeq_eq, spec_SessionsValid_f xs hx, Option.bind_some, h1, spec_l1In_f, Option.bind_some, decide_eq_true hi.1, spec_l9Find_f xs s.Client h1]; rfl
      simp only [Bool.not_true, cond_false, hs, Option.bind_some, cond_dec, spec_SessionPut_l xs (by omega) s xs 0 [] false (by omega) (by omega) (by simp) rfl, List.nil_append, and_self, if_true]
      rw [ble_row (by simp; omega) (by omega), cond_true]
      unfold sessOf
      rcases sess_split s.Client xs ((sessOk_iff xs).1 h1).2 with ⟨A, B, y, rfl, k0, k1, k2⟩ | ⟨A, B, rfl, k1, k2⟩
      · obtain ⟨hp, hs⟩ := shit_app k0 k1 k2
        rw [if_pos hs, if_pos hs, hp, srd_app, sputL_skip _ _ A k1]
        by_cases q : s.Seq ≤ y.Seq
        · rw [if_pos q, if_pos (show y.Seq ≥ s.Seq from q)]
        · rw [if_neg q, if_neg (show ¬ y.Seq ≥ s.Seq from q)]
          rw [show sputL s false (y :: B) = (if false = false ∧ y.Client ≥ s.Client then [s] else []) ++ (if y.Client = s.Client then [] else [y]) ++ sputL s (false || decide (y.Client ≥ s.Client)) B from rfl]
          rw [if_pos (show false = false ∧ y.Client ≥ s.Client from ⟨rfl, by omega⟩), if_pos k0, decide_eq_true (show y.Client ≥ s.Client by omega), Bool.or_true, sputL_rest _ B k2]
          simp
      · obtain ⟨hp, hs⟩ := snohit_app k1 k2
        have h0 : ¬ (s.Seq ≤ (⟨0, 0, 0⟩ : impl_Session).Seq) := by have h5 : 1 ≤ s.Seq := hi.2.1.1; show ¬ (s.Seq ≤ (0 : Int)); omega
        rw [if_neg (show ¬ (shit s.Client (A ++ B) = true) by rw [hs]; simp), if_neg (show ¬ (shit s.Client (A ++ B) = true) by rw [hs]; simp), hp, if_neg h0, sputL_skip _ _ A k1]
        cases B with
        | nil => simp [sputL]
        | cons y B =>
          have hy := k2 y List.mem_cons_self
          rw [show sputL s false (y :: B) = (if false = false ∧ y.Client ≥ s.Client then [s] else []) ++ (if y.Client = s.Client then [] else [y]) ++ sputL s (false || decide (y.Client ≥ s.Client)) B from rfl]
          rw [if_pos (show false = false ∧ y.Client ≥ s.Client from ⟨rfl, by omega⟩), if_neg (show ¬ y.Client = s.Client by omega), decide_eq_true (show y.Client ≥ s.Client by omega), Bool.or_true, sputL_rest _ B (fun z hz => k2 z (List.mem_cons_of_mem _ hz))]
          simp
/-! ### The program's -/
theorem impl_seqValid_f (a : Int) : impl_seqValid a = some (decide (1 ≤ a ∧ a ≤ 999), ()) := by
  rw [impl_seqValid_eq, cond_dec]
  by_cases h : 1 ≤ a
  · rw [if_pos h, Bool.decide_and, decide_eq_true h]; rfl
  · rw [if_neg h, decide_eq_false (by omega)]
theorem impl_SessionsValid_l (xs : List impl_Session) (hx : xs.length ≤ 1000000000000) : ∀ (ys : List impl_Session) (i p : Int), 0 ≤ i → i ≤ xs.length → xs.drop i.toNat = ys → (i = 0 → p = -1) → (0 < i → p = (rdAt xs (Int.toNat (i - 1)) z_impl_Session).Client) → impl_SessionsValid_2 xs xs (xs.length : Int) i = some (sessFrom p ys, ())
  | [], i, p, h0, h1, hd, hp0, hp1 => by
    have := drop_nil h0 h1 hd
    rw [impl_SessionsValid_2_eq, cond_dec, if_neg (by omega)]; rfl
  | y :: ys, i, p, h0, h1, hd, hp0, hp1 => by
    obtain ⟨hr, hl, hd'⟩ := rd_drop (d := z_impl_Session) h0 hd
    have ih := impl_SessionsValid_l xs hx ys (i + 1) y.Client (by omega) (by omega) hd' (fun h => by omega) (fun _ => by rw [show i + 1 - 1 = i by omega, hr])
    have no : ∀ R : Bool, sessItem y = false → some (false, ()) = some (sessItem y && R && sessFrom y.Client ys, ()) := fun R h => by rw [h]; rfl
    rw [impl_SessionsValid_2_eq]
    simp only [cond_dec, if_pos hl, if_pos h0, hr, w64 (n := i + 1) (by omega) (by omega), w64 (n := i - 1) (by omega) (by omega), ih, impl_seqValid_f, Option.bind_some, sessFrom]
    by_cases c1 : y.Client < 0
    · rw [if_pos c1]; exact no _ (by unfold sessItem; rw [decide_eq_false (p := 0 ≤ y.Client ∧ y.Client ≤ 3) (by omega)]; rfl)
    · rw [if_neg c1]
      by_cases c2 : 4 ≤ y.Client
      · rw [if_pos c2]; exact no _ (by unfold sessItem; rw [decide_eq_false (p := 0 ≤ y.Client ∧ y.Client ≤ 3) (by omega)]; rfl)
      · rw [if_neg c2]
        by_cases c3 : 1 ≤ y.Seq ∧ y.Seq ≤ 999
        · rw [decide_eq_true c3, Bool.not_true, cond_false]
          by_cases c4 : y.Reply < -2
          · rw [if_pos c4]; exact no _ (by unfold sessItem; rw [decide_eq_false (p := -2 ≤ y.Reply ∧ y.Reply ≤ 999) (by omega)]; simp)
          · rw [if_neg c4]
            by_cases c5 : 999 < y.Reply
            · rw [if_pos c5]; exact no _ (by unfold sessItem; rw [decide_eq_false (p := -2 ≤ y.Reply ∧ y.Reply ≤ 999) (by omega)]; simp)
            · rw [if_neg c5]
              have : sessItem y = true := (sessItem_iff y).2 ⟨by omega, c3, by omega⟩
              rw [this, Bool.true_and]
              by_cases hi : 0 < i
              · rw [if_pos hi, if_pos (by omega), if_pos (by omega), ← hp1 hi]
                by_cases e : y.Client ≤ p
                · rw [if_pos e, decide_eq_false (p := p < y.Client) (by omega)]; rfl
                · rw [if_neg e, decide_eq_true (p := p < y.Client) (by omega)]; rfl
              · rw [if_neg hi, hp0 (by omega), decide_eq_true (p := -1 < y.Client) (by omega)]; rfl
        · rw [decide_eq_false c3]; exact no _ (by unfold sessItem; rw [decide_eq_false c3]; simp)
theorem impl_SessionsValid_f (xs : List impl_Session) (hx : xs.length ≤ 1000000000000) : impl_SessionsValid xs = some (sessOk xs, ()) := by
  rw [impl_SessionsValid_eq, impl_SessionsValid_l xs hx xs 0 (-1) (by omega) (by omega) rfl (fun _ => rfl) (fun h => by omega)]; rfl
theorem impl_copyOf_Session_f (l : List impl_Session) (h : l.length ≤ 1000000000) : impl_copyOf_Session l = some (l, ()) := by
  rw [impl_copyOf_Session_eq, ble_row (by omega) (by omega)]; rfl
end Go.Proofs.YtlffjoabajdfnaaGreat.Ev
