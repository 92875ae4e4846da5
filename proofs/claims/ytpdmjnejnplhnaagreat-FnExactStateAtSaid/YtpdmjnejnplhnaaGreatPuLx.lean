/- The laws' own functions: sizes, turns into the program's types, comparisons. Printed by genlaws.py. No condition. -/
import Derived.Test.YtpdmjnejnplhnaaGreatPuCh
set_option linter.unusedVariables false
set_option linter.unusedSimpArgs false
namespace Go.Proofs.YtpdmjnejnplhnaaGreat.Ev
open Go.Proofs.YtpdmjnejnplhnaaGreat.Eng
open Go.RowKit (wrap64)

/-- A list is short, and so is what its elements hold. -/
def SmL {α : Type} (P : α → Prop) (xs : List α) : Prop := xs.length ≤ 1048576 ∧ ∀ x ∈ xs, P x
theorem SmL.map {α β : Type} {P : α → Prop} {Q : β → Prop} {f : α → β} {xs : List α} (h : SmL P xs) (hf : ∀ x, P x → Q (f x)) : SmL Q (xs.map f) :=
  ⟨by rw [List.length_map]; exact h.1, fun y hy => by obtain ⟨x, hx, rfl⟩ := List.mem_map.1 hy; exact hf x (h.2 x hx)⟩
theorem beqB_self' (b : Bool) : beqB b b = true := by cases b <;> rfl
theorem map_id_ {α : Type} (xs : List α) : xs.map (id : α → α) = xs := List.map_id xs
theorem eta_laws_Command (x : laws_Command) : laws_Command.mk x.Kind x.Key x.Value x.Old = x := rfl
theorem eta_impl_Command (x : impl_Command) : impl_Command.mk x.Kind x.Key x.Value x.Old = x := rfl
def cvCommand (x : laws_Command) : impl_Command := ⟨x.Kind, x.Key, x.Value, x.Old⟩
theorem toCommand_f (x : laws_Command) : laws_toCommand x = some (cvCommand x, ()) := by
  rw [laws_toCommand_eq]; rfl
theorem eqCommand_self (x : impl_Command) : laws_eqCommand x x = some (true, ()) := by
  rw [laws_eqCommand_eq]; simp [sEq_dec, beqB_self']
theorem szCommand_f (x : laws_Command) (k : Int) (h0 : 0 ≤ k) (h1 : k ≤ 1048576) (hb : Bnd Y_laws_Command x) : ∃ r, laws_szCommand x k = some (r, ()) ∧ -1 ≤ r ∧ r ≤ k ∧ (r < 0 ∨ True) := by
  obtain ⟨_, b0, b1, b2, b3, _⟩ := hb
  rw [laws_szCommand_eq]
  have z1 : x.Key.size ≤ 9223372036854775807 := b1
  rw [w64 (n := k - (x.Key.size : Int)) (by omega) (by omega), cond_dec]
  by_cases n1 : k - (x.Key.size : Int) < 0
  · rw [if_pos n1]; exact ⟨-1, rfl, by omega, by omega, .inl (by omega)⟩
  rw [if_neg n1]
  obtain ⟨r1, g1⟩ : ∃ r : Int, r = k - (x.Key.size : Int) := ⟨_, rfl⟩
  rw [← g1]
  exact ⟨_, rfl, by omega, by omega, .inr trivial⟩
theorem eta_laws_Entry (x : laws_Entry) : laws_Entry.mk x.Client x.Seq x.Cmd = x := rfl
theorem eta_impl_Entry (x : impl_Entry) : impl_Entry.mk x.Client x.Seq x.Cmd = x := rfl
def cvEntry (x : laws_Entry) : impl_Entry := ⟨x.Client, x.Seq, cvCommand x.Cmd⟩
theorem toEntry_f (x : laws_Entry) : laws_toEntry x = some (cvEntry x, ()) := by
  rw [laws_toEntry_eq, toCommand_f x.Cmd, Option.bind_some]; rfl
theorem eqEntry_self (x : impl_Entry) : laws_eqEntry x x = some (true, ()) := by
  rw [laws_eqEntry_eq]; simp [sEq_dec, beqB_self', eqCommand_self x.Cmd]
theorem szEntry_f (x : laws_Entry) (k : Int) (h0 : 0 ≤ k) (h1 : k ≤ 1048576) (hb : Bnd Y_laws_Entry x) : ∃ r, laws_szEntry x k = some (r, ()) ∧ -1 ≤ r ∧ r ≤ k ∧ (r < 0 ∨ True) := by
  obtain ⟨_, b0, b1, b2, _⟩ := hb
  rw [laws_szEntry_eq]
  obtain ⟨r1, e1, l1, u1, s1⟩ := szCommand_f x.Cmd k (by omega) (by omega) b2
  rw [e1, Option.bind_some, cond_dec]
  by_cases n1 : r1 < 0
  · rw [if_pos n1]; exact ⟨-1, rfl, by omega, by omega, .inl (by omega)⟩
  rw [if_neg n1]
  exact ⟨_, rfl, by omega, by omega, .inr trivial⟩
theorem eta_laws_Answer (x : laws_Answer) : laws_Answer.mk x.Asked x.Reply = x := rfl
theorem eta_impl_Answer (x : impl_Answer) : impl_Answer.mk x.Asked x.Reply = x := rfl
def cvAnswer (x : laws_Answer) : impl_Answer := ⟨cvEntry x.Asked, x.Reply⟩
theorem toAnswer_f (x : laws_Answer) : laws_toAnswer x = some (cvAnswer x, ()) := by
  rw [laws_toAnswer_eq, toEntry_f x.Asked, Option.bind_some]; rfl
theorem eqAnswer_self (x : impl_Answer) : laws_eqAnswer x x = some (true, ()) := by
  rw [laws_eqAnswer_eq]; simp [sEq_dec, beqB_self', eqEntry_self x.Asked]
theorem szAnswer_f (x : laws_Answer) (k : Int) (h0 : 0 ≤ k) (h1 : k ≤ 1048576) (hb : Bnd Y_laws_Answer x) : ∃ r, laws_szAnswer x k = some (r, ()) ∧ -1 ≤ r ∧ r ≤ k ∧ (r < 0 ∨ True) := by
  obtain ⟨_, b0, b1, _⟩ := hb
  rw [laws_szAnswer_eq]
  obtain ⟨r1, e1, l1, u1, s1⟩ := szEntry_f x.Asked k (by omega) (by omega) b0
  rw [e1, Option.bind_some, cond_dec]
  by_cases n1 : r1 < 0
  · rw [if_pos n1]; exact ⟨-1, rfl, by omega, by omega, .inl (by omega)⟩
  rw [if_neg n1]
  exact ⟨_, rfl, by omega, by omega, .inr trivial⟩
theorem eta_laws_Interval (x : laws_Interval) : laws_Interval.mk x.Low x.High = x := rfl
theorem eta_impl_Interval (x : impl_Interval) : impl_Interval.mk x.Low x.High = x := rfl
def cvInterval (x : laws_Interval) : impl_Interval := ⟨x.Low, x.High⟩
theorem toInterval_f (x : laws_Interval) : laws_toInterval x = some (cvInterval x, ()) := by
  rw [laws_toInterval_eq]; rfl
theorem eqInterval_self (x : impl_Interval) : laws_eqInterval x x = some (true, ()) := by
  rw [laws_eqInterval_eq]; simp [sEq_dec, beqB_self']
theorem szInterval_f (x : laws_Interval) (k : Int) (h0 : 0 ≤ k) (h1 : k ≤ 1048576) (hb : Bnd Y_laws_Interval x) : ∃ r, laws_szInterval x k = some (r, ()) ∧ -1 ≤ r ∧ r ≤ k ∧ (r < 0 ∨ True) := by
  obtain ⟨_, b0, b1, _⟩ := hb
  rw [laws_szInterval_eq]
  have z1 : x.Low.size ≤ 9223372036854775807 := b0
  rw [w64 (n := k - (x.Low.size : Int)) (by omega) (by omega), cond_dec]
  by_cases n1 : k - (x.Low.size : Int) < 0
  · rw [if_pos n1]; exact ⟨-1, rfl, by omega, by omega, .inl (by omega)⟩
  rw [if_neg n1]
  obtain ⟨r1, g1⟩ : ∃ r : Int, r = k - (x.Low.size : Int) := ⟨_, rfl⟩
  rw [← g1]
  have z2 : x.High.size ≤ 9223372036854775807 := b1
  rw [w64 (n := r1 - (x.High.size : Int)) (by omega) (by omega), cond_dec]
  by_cases n2 : r1 - (x.High.size : Int) < 0
  · rw [if_pos n2]; exact ⟨-1, rfl, by omega, by omega, .inl (by omega)⟩
  rw [if_neg n2]
  obtain ⟨r2, g2⟩ : ∃ r : Int, r = r1 - (x.High.size : Int) := ⟨_, rfl⟩
  rw [← g2]
  exact ⟨_, rfl, by omega, by omega, .inr trivial⟩
theorem eta_laws_Pair (x : laws_Pair) : laws_Pair.mk x.Key x.Value = x := rfl
theorem eta_impl_Pair (x : impl_Pair) : impl_Pair.mk x.Key x.Value = x := rfl
def cvPair (x : laws_Pair) : impl_Pair := ⟨x.Key, x.Value⟩
theorem toPair_f (x : laws_Pair) : laws_toPair x = some (cvPair x, ()) := by
  rw [laws_toPair_eq]; rfl
theorem eqPair_self (x : impl_Pair) : laws_eqPair x x = some (true, ()) := by
  rw [laws_eqPair_eq]; simp [sEq_dec, beqB_self']
theorem szPair_f (x : laws_Pair) (k : Int) (h0 : 0 ≤ k) (h1 : k ≤ 1048576) (hb : Bnd Y_laws_Pair x) : ∃ r, laws_szPair x k = some (r, ()) ∧ -1 ≤ r ∧ r ≤ k ∧ (r < 0 ∨ True) := by
  obtain ⟨_, b0, b1, _⟩ := hb
  rw [laws_szPair_eq]
  have z1 : x.Key.size ≤ 9223372036854775807 := b0
  rw [w64 (n := k - (x.Key.size : Int)) (by omega) (by omega), cond_dec]
  by_cases n1 : k - (x.Key.size : Int) < 0
  · rw [if_pos n1]; exact ⟨-1, rfl, by omega, by omega, .inl (by omega)⟩
  rw [if_neg n1]
  obtain ⟨r1, g1⟩ : ∃ r : Int, r = k - (x.Key.size : Int) := ⟨_, rfl⟩
  rw [← g1]
  exact ⟨_, rfl, by omega, by omega, .inr trivial⟩
theorem toPairS_f (xs : List laws_Pair) (h : (SmL (fun _ => True)) xs) : laws_toPairS xs = some (xs.map cvPair, ()) := by
  have hx := h.1
  rw [laws_toPairS_eq]
  simp only [cond_dec, if_pos (show (0 : Int) ≤ (xs.length : Int) by omega), if_pos (show (xs.length : Int) ≤ (xs.length : Int) by omega), if_pos (show (24 : Int) * (xs.length : Int) ≤ 281474976710656 by omega), Int.toNat_natCast]
  refine copy_loop0 (xs.map cvPair) _ z_impl_Pair xs.length (by simp) (by simp) (fun l => (l, ())) (fun zs i => laws_toPairS_3 xs i zs) (fun zs i h0 h1 hl => ?_)
  rw [laws_toPairS_3_eq]
  by_cases hi : i < (xs.length : Int)
  · have hm := h.2 _ (rd_mem (d := z_laws_Pair) h0 hi)
    simp only [cond_dec, if_pos hi, if_pos h0, eta_laws_Pair, toPair_f _, eta_impl_Pair, Option.bind_some, if_pos (show i < (zs.length : Int) by omega), w64 (n := i + 1) (by omega) (by omega), rd_map cvPair xs i.toNat z_laws_Pair _ (by omega)]
  · simp only [cond_dec, if_neg hi]
theorem eqPairS_self (xs : List impl_Pair) (h : (SmL (fun _ => True)) xs) : laws_eqPairS xs xs = some (true, ()) := by
  have hx := h.1
  rw [laws_eqPairS_eq, decide_eq_true rfl]
  refine refl_loop0 (true, ()) xs.length (fun i => laws_eqPairS_4 xs xs i) (fun i h0 h1 => ?_)
  rw [laws_eqPairS_4_eq]
  by_cases hi : i < (xs.length : Int)
  · have hm := h.2 _ (rd_mem (d := z_impl_Pair) h0 hi)
    simp only [cond_dec, eta_impl_Pair, eqPair_self _, Option.bind_some, Bool.not_true, cond_false, if_pos h0, if_pos hi, w64 (n := i + 1) (by omega) (by omega)]
  · simp only [cond_dec, if_neg hi]
theorem szPairS_l (xs : List laws_Pair) (hx : xs.length ≤ 1048576) (hB : ∀ x ∈ xs, Bnd Y_laws_Pair x) : ∀ (ys : List laws_Pair) (i k : Int), 0 ≤ i → i ≤ xs.length → xs.drop i.toNat = ys → 0 ≤ k → k ≤ 1048576 → ∃ r, laws_szPairS_5 xs k i = some (r, ()) ∧ -1 ≤ r ∧ r ≤ k ∧ (r < 0 ∨ True)
  | [], i, k, h0, h1, hd, h2, h3 => by
    have := drop_nil h0 h1 hd
    rw [laws_szPairS_5_eq, cond_dec, if_neg (by omega)]; exact ⟨_, rfl, by omega, by omega, .inr trivial⟩
  | y :: ys, i, k, h0, h1, hd, h2, h3 => by
    obtain ⟨hr, hl, hd'⟩ := rd_drop (d := z_laws_Pair) h0 hd
    have hm : y ∈ xs := by rw [← hr]; exact rd_mem h0 hl
    obtain ⟨r, e, l, u, s⟩ := szPair_f y k h2 h3 (hB y hm)
    rw [laws_szPairS_5_eq]
    simp only [cond_dec, if_pos hl, if_pos h0, hr, eta_laws_Pair, e, Option.bind_some, w64 (n := i + 1) (by omega) (by omega)]
    by_cases c : r < 0
    · rw [if_pos c]; exact ⟨_, rfl, by omega, by omega, .inl (by omega)⟩
    · rw [if_neg c]
      obtain ⟨q, e2, l2, u2, s2⟩ := szPairS_l xs hx hB ys (i + 1) r (by omega) (by omega) hd' (by omega) (by omega)
      exact ⟨q, e2, l2, by omega, .inr trivial⟩
theorem szPairS_f (xs : List laws_Pair) (k : Int) (h0 : 0 ≤ k) (h1 : k ≤ 1048576) (hb : Bnd (.sl Y_laws_Pair) xs) : ∃ r, laws_szPairS xs k = some (r, ()) ∧ -1 ≤ r ∧ r ≤ k ∧ (r < 0 ∨ (SmL (fun _ => True)) xs) := by
  obtain ⟨b0, b1⟩ := hb
  have b0 : xs.length ≤ 9223372036854775807 := b0
  rw [laws_szPairS_eq]
  simp only [cond_dec, w64 (n := k - (xs.length : Int)) (by omega) (by omega)]
  by_cases c : k - (xs.length : Int) < 0
  · rw [if_pos c]; exact ⟨_, rfl, by omega, by omega, .inl (by omega)⟩
  rw [if_neg c]
  obtain ⟨r, e, l, u, s⟩ := szPairS_l xs (by omega) b1 xs 0 (k - xs.length) (by omega) (by omega) rfl (by omega) (by omega)
  exact ⟨r, e, l, by omega, s.imp id fun h => ⟨by omega, fun _ _ => trivial⟩⟩
theorem eta_laws_Session (x : laws_Session) : laws_Session.mk x.Client x.Seq x.Reply = x := rfl
theorem eta_impl_Session (x : impl_Session) : impl_Session.mk x.Client x.Seq x.Reply = x := rfl
def cvSession (x : laws_Session) : impl_Session := ⟨x.Client, x.Seq, x.Reply⟩
theorem toSession_f (x : laws_Session) : laws_toSession x = some (cvSession x, ()) := by
  rw [laws_toSession_eq]; rfl
theorem eqSession_self (x : impl_Session) : laws_eqSession x x = some (true, ()) := by
  rw [laws_eqSession_eq]; simp [sEq_dec, beqB_self']
theorem toSessionS_f (xs : List laws_Session) (h : (SmL (fun _ => True)) xs) : laws_toSessionS xs = some (xs.map cvSession, ()) := by
  have hx := h.1
  rw [laws_toSessionS_eq]
  simp only [cond_dec, if_pos (show (0 : Int) ≤ (xs.length : Int) by omega), if_pos (show (xs.length : Int) ≤ (xs.length : Int) by omega), if_pos (show (24 : Int) * (xs.length : Int) ≤ 281474976710656 by omega), Int.toNat_natCast]
  refine copy_loop0 (xs.map cvSession) _ z_impl_Session xs.length (by simp) (by simp) (fun l => (l, ())) (fun zs i => laws_toSessionS_3 xs i zs) (fun zs i h0 h1 hl => ?_)
  rw [laws_toSessionS_3_eq]
  by_cases hi : i < (xs.length : Int)
  · have hm := h.2 _ (rd_mem (d := z_laws_Session) h0 hi)
    simp only [cond_dec, if_pos hi, if_pos h0, eta_laws_Session, toSession_f _, eta_impl_Session, Option.bind_some, if_pos (show i < (zs.length : Int) by omega), w64 (n := i + 1) (by omega) (by omega), rd_map cvSession xs i.toNat z_laws_Session _ (by omega)]
  · simp only [cond_dec, if_neg hi]
theorem eqSessionS_self (xs : List impl_Session) (h : (SmL (fun _ => True)) xs) : laws_eqSessionS xs xs = some (true, ()) := by
  have hx := h.1
  rw [laws_eqSessionS_eq, decide_eq_true rfl]
  refine refl_loop0 (true, ()) xs.length (fun i => laws_eqSessionS_4 xs xs i) (fun i h0 h1 => ?_)
  rw [laws_eqSessionS_4_eq]
  by_cases hi : i < (xs.length : Int)
  · have hm := h.2 _ (rd_mem (d := z_impl_Session) h0 hi)
    simp only [cond_dec, eta_impl_Session, eqSession_self _, Option.bind_some, Bool.not_true, cond_false, if_pos h0, if_pos hi, w64 (n := i + 1) (by omega) (by omega)]
  · simp only [cond_dec, if_neg hi]
theorem szSessionS_f (xs : List laws_Session) (k : Int) (h0 : 0 ≤ k) (h1 : k ≤ 1048576) (hb : Bnd (.sl Y_laws_Session) xs) : ∃ r, laws_szSessionS xs k = some (r, ()) ∧ -1 ≤ r ∧ r ≤ k ∧ (r < 0 ∨ (SmL (fun _ => True)) xs) := by
  obtain ⟨b0, b1⟩ := hb
  have b0 : xs.length ≤ 9223372036854775807 := b0
  rw [laws_szSessionS_eq]
  simp only [cond_dec, w64 (n := k - (xs.length : Int)) (by omega) (by omega)]
  by_cases c : k - (xs.length : Int) < 0
  · rw [if_pos c]; exact ⟨_, rfl, by omega, by omega, .inl (by omega)⟩
  rw [if_neg c]
  exact ⟨_, rfl, by omega, by omega, .inr ⟨by omega, fun _ _ => trivial⟩⟩
def Sm_laws_State (x : laws_State) : Prop := (SmL (fun _ => True)) x.Pairs ∧ (SmL (fun _ => True)) x.Known ∧ True
theorem eta_laws_State (x : laws_State) : laws_State.mk x.Span x.Pairs x.Known x.Sealed x.Cut = x := rfl
def Sm_impl_State (x : impl_State) : Prop := (SmL (fun _ => True)) x.Pairs ∧ (SmL (fun _ => True)) x.Known ∧ True
theorem eta_impl_State (x : impl_State) : impl_State.mk x.Span x.Pairs x.Known x.Sealed x.Cut = x := rfl
def cvState (x : laws_State) : impl_State := ⟨cvInterval x.Span, (List.map cvPair) x.Pairs, (List.map cvSession) x.Known, x.Sealed, x.Cut⟩
theorem toState_f (x : laws_State) (h : Sm_laws_State x) : laws_toState x = some (cvState x, ()) := by
  rw [laws_toState_eq, toInterval_f x.Span, Option.bind_some, toPairS_f x.Pairs h.1, Option.bind_some, toSessionS_f x.Known h.2.1, Option.bind_some]; rfl
theorem Sm_cvState {x : laws_State} (h : Sm_laws_State x) : Sm_impl_State (cvState x) := ⟨SmL.map h.1 fun x h => trivial, SmL.map h.2.1 fun x h => trivial, trivial⟩
theorem eqState_self (x : impl_State) (h : Sm_impl_State x) : laws_eqState x x = some (true, ()) := by
  rw [laws_eqState_eq]; simp [sEq_dec, beqB_self', eqInterval_self x.Span, eqPairS_self x.Pairs h.1, eqSessionS_self x.Known h.2.1]
theorem szState_f (x : laws_State) (k : Int) (h0 : 0 ≤ k) (h1 : k ≤ 1048576) (hb : Bnd Y_laws_State x) : ∃ r, laws_szState x k = some (r, ()) ∧ -1 ≤ r ∧ r ≤ k ∧ (r < 0 ∨ Sm_laws_State x) := by
  obtain ⟨_, b0, b1, b2, b3, b4, _⟩ := hb
  rw [laws_szState_eq]
  obtain ⟨r1, e1, l1, u1, s1⟩ := szInterval_f x.Span k (by omega) (by omega) b0
  rw [e1, Option.bind_some, cond_dec]
  by_cases n1 : r1 < 0
  · rw [if_pos n1]; exact ⟨-1, rfl, by omega, by omega, .inl (by omega)⟩
  rw [if_neg n1]
  obtain ⟨r2, e2, l2, u2, s2⟩ := szPairS_f x.Pairs r1 (by omega) (by omega) b1
  rw [e2, Option.bind_some, cond_dec]
  by_cases n2 : r2 < 0
  · rw [if_pos n2]; exact ⟨-1, rfl, by omega, by omega, .inl (by omega)⟩
  rw [if_neg n2]
  obtain ⟨r3, e3, l3, u3, s3⟩ := szSessionS_f x.Known r2 (by omega) (by omega) b2
  rw [e3, Option.bind_some, cond_dec]
  by_cases n3 : r3 < 0
  · rw [if_pos n3]; exact ⟨-1, rfl, by omega, by omega, .inl (by omega)⟩
  rw [if_neg n3]
  have z4 : x.Cut.size ≤ 9223372036854775807 := b4
  rw [w64 (n := r3 - (x.Cut.size : Int)) (by omega) (by omega), cond_dec]
  by_cases n4 : r3 - (x.Cut.size : Int) < 0
  · rw [if_pos n4]; exact ⟨-1, rfl, by omega, by omega, .inl (by omega)⟩
  rw [if_neg n4]
  obtain ⟨r4, g4⟩ : ∃ r : Int, r = r3 - (x.Cut.size : Int) := ⟨_, rfl⟩
  rw [← g4]
  exact ⟨_, rfl, by omega, by omega, .inr ⟨s2.resolve_left n2, s3.resolve_left n3, trivial⟩⟩
theorem toIntS_f (xs : List Int) (h : (SmL (fun _ => True)) xs) : laws_toIntS xs = some (xs, ()) := by
  have hx := h.1
  rw [laws_toIntS_eq]
  simp only [cond_dec, if_pos (show (0 : Int) ≤ (xs.length : Int) by omega), if_pos (show (xs.length : Int) ≤ (xs.length : Int) by omega), if_pos (show (8 : Int) * (xs.length : Int) ≤ 281474976710656 by omega), Int.toNat_natCast]
  refine copy_loop0 (xs) _ (0 : Int) xs.length (by simp) (by simp) (fun l => (l, ())) (fun zs i => laws_toIntS_3 xs i zs) (fun zs i h0 h1 hl => ?_)
  rw [laws_toIntS_3_eq]
  by_cases hi : i < (xs.length : Int)
  · simp only [cond_dec, if_pos hi, if_pos h0, if_pos (show i < (zs.length : Int) by omega), w64 (n := i + 1) (by omega) (by omega)]
  · simp only [cond_dec, if_neg hi]
theorem eqIntS_self (xs : List Int) (h : (SmL (fun _ => True)) xs) : laws_eqIntS xs xs = some (true, ()) := by
  have hx := h.1
  rw [laws_eqIntS_eq, decide_eq_true rfl]
  refine refl_loop0 (true, ()) xs.length (fun i => laws_eqIntS_4 xs xs i) (fun i h0 h1 => ?_)
  rw [laws_eqIntS_4_eq]
  by_cases hi : i < (xs.length : Int)
  · simp only [cond_dec, decide_true, sEq_dec, beqB_self', Bool.not_true, cond_false, if_pos h0, if_pos hi, w64 (n := i + 1) (by omega) (by omega)]
  · simp only [cond_dec, if_neg hi]
theorem szIntS_f (xs : List Int) (k : Int) (h0 : 0 ≤ k) (h1 : k ≤ 1048576) (hb : Bnd (.sl (.int .i64)) xs) : ∃ r, laws_szIntS xs k = some (r, ()) ∧ -1 ≤ r ∧ r ≤ k ∧ (r < 0 ∨ (SmL (fun _ => True)) xs) := by
  obtain ⟨b0, b1⟩ := hb
  have b0 : xs.length ≤ 9223372036854775807 := b0
  rw [laws_szIntS_eq]
  simp only [cond_dec, w64 (n := k - (xs.length : Int)) (by omega) (by omega)]
  by_cases c : k - (xs.length : Int) < 0
  · rw [if_pos c]; exact ⟨_, rfl, by omega, by omega, .inl (by omega)⟩
  rw [if_neg c]
  exact ⟨_, rfl, by omega, by omega, .inr ⟨by omega, fun _ _ => trivial⟩⟩
def Sm_laws_Config (x : laws_Config) : Prop := (SmL (fun _ => True)) x.Members ∧ True
theorem eta_laws_Config (x : laws_Config) : laws_Config.mk x.Epoch x.Members x.Fresh = x := rfl
def Sm_impl_Config (x : impl_Config) : Prop := (SmL (fun _ => True)) x.Members ∧ True
theorem eta_impl_Config (x : impl_Config) : impl_Config.mk x.Epoch x.Members x.Fresh = x := rfl
def cvConfig (x : laws_Config) : impl_Config := ⟨x.Epoch, x.Members, x.Fresh⟩
theorem toConfig_f (x : laws_Config) (h : Sm_laws_Config x) : laws_toConfig x = some (cvConfig x, ()) := by
  rw [laws_toConfig_eq, toIntS_f x.Members h.1, Option.bind_some]; rfl
theorem Sm_cvConfig {x : laws_Config} (h : Sm_laws_Config x) : Sm_impl_Config (cvConfig x) := ⟨h.1, trivial⟩
theorem eqConfig_self (x : impl_Config) (h : Sm_impl_Config x) : laws_eqConfig x x = some (true, ()) := by
  rw [laws_eqConfig_eq]; simp [sEq_dec, beqB_self', eqIntS_self x.Members h.1]
theorem szConfig_f (x : laws_Config) (k : Int) (h0 : 0 ≤ k) (h1 : k ≤ 1048576) (hb : Bnd Y_laws_Config x) : ∃ r, laws_szConfig x k = some (r, ()) ∧ -1 ≤ r ∧ r ≤ k ∧ (r < 0 ∨ Sm_laws_Config x) := by
  obtain ⟨_, b0, b1, b2, _⟩ := hb
  rw [laws_szConfig_eq]
  obtain ⟨r1, e1, l1, u1, s1⟩ := szIntS_f x.Members k (by omega) (by omega) b1
  rw [e1, Option.bind_some, cond_dec]
  by_cases n1 : r1 < 0
  · rw [if_pos n1]; exact ⟨-1, rfl, by omega, by omega, .inl (by omega)⟩
  rw [if_neg n1]
  exact ⟨_, rfl, by omega, by omega, .inr ⟨s1.resolve_left n1, trivial⟩⟩
theorem toEntryS_f (xs : List laws_Entry) (h : (SmL (fun _ => True)) xs) : laws_toEntryS xs = some (xs.map cvEntry, ()) := by
  have hx := h.1
  rw [laws_toEntryS_eq]
  simp only [cond_dec, if_pos (show (0 : Int) ≤ (xs.length : Int) by omega), if_pos (show (xs.length : Int) ≤ (xs.length : Int) by omega), if_pos (show (56 : Int) * (xs.length : Int) ≤ 281474976710656 by omega), Int.toNat_natCast]
  refine copy_loop0 (xs.map cvEntry) _ z_impl_Entry xs.length (by simp) (by simp) (fun l => (l, ())) (fun zs i => laws_toEntryS_3 xs i zs) (fun zs i h0 h1 hl => ?_)
  rw [laws_toEntryS_3_eq]
  by_cases hi : i < (xs.length : Int)
  · have hm := h.2 _ (rd_mem (d := z_laws_Entry) h0 hi)
    simp only [cond_dec, if_pos hi, if_pos h0, eta_laws_Entry, toEntry_f _, eta_impl_Entry, Option.bind_some, if_pos (show i < (zs.length : Int) by omega), w64 (n := i + 1) (by omega) (by omega), rd_map cvEntry xs i.toNat z_laws_Entry _ (by omega)]
  · simp only [cond_dec, if_neg hi]
theorem eqEntryS_self (xs : List impl_Entry) (h : (SmL (fun _ => True)) xs) : laws_eqEntryS xs xs = some (true, ()) := by
  have hx := h.1
  rw [laws_eqEntryS_eq, decide_eq_true rfl]
  refine refl_loop0 (true, ()) xs.length (fun i => laws_eqEntryS_4 xs xs i) (fun i h0 h1 => ?_)
  rw [laws_eqEntryS_4_eq]
  by_cases hi : i < (xs.length : Int)
  · have hm := h.2 _ (rd_mem (d := z_impl_Entry) h0 hi)
    simp only [cond_dec, eta_impl_Entry, eqEntry_self _, Option.bind_some, Bool.not_true, cond_false, if_pos h0, if_pos hi, w64 (n := i + 1) (by omega) (by omega)]
  · simp only [cond_dec, if_neg hi]
theorem szEntryS_l (xs : List laws_Entry) (hx : xs.length ≤ 1048576) (hB : ∀ x ∈ xs, Bnd Y_laws_Entry x) : ∀ (ys : List laws_Entry) (i k : Int), 0 ≤ i → i ≤ xs.length → xs.drop i.toNat = ys → 0 ≤ k → k ≤ 1048576 → ∃ r, laws_szEntryS_5 xs k i = some (r, ()) ∧ -1 ≤ r ∧ r ≤ k ∧ (r < 0 ∨ True)
  | [], i, k, h0, h1, hd, h2, h3 => by
    have := drop_nil h0 h1 hd
    rw [laws_szEntryS_5_eq, cond_dec, if_neg (by omega)]; exact ⟨_, rfl, by omega, by omega, .inr trivial⟩
  | y :: ys, i, k, h0, h1, hd, h2, h3 => by
    obtain ⟨hr, hl, hd'⟩ := rd_drop (d := z_laws_Entry) h0 hd
    have hm : y ∈ xs := by rw [← hr]; exact rd_mem h0 hl
    obtain ⟨r, e, l, u, s⟩ := szEntry_f y k h2 h3 (hB y hm)
    rw [laws_szEntryS_5_eq]
    simp only [cond_dec, if_pos hl, if_pos h0, hr, eta_laws_Entry, e, Option.bind_some, w64 (n := i + 1) (by omega) (by omega)]
    by_cases c : r < 0
    · rw [if_pos c]; exact ⟨_, rfl, by omega, by omega, .inl (by omega)⟩
    · rw [if_neg c]
      obtain ⟨q, e2, l2, u2, s2⟩ := szEntryS_l xs hx hB ys (i + 1) r (by omega) (by omega) hd' (by omega) (by omega)
      exact ⟨q, e2, l2, by omega, .inr trivial⟩
theorem szEntryS_f (xs : List laws_Entry) (k : Int) (h0 : 0 ≤ k) (h1 : k ≤ 1048576) (hb : Bnd (.sl Y_laws_Entry) xs) : ∃ r, laws_szEntryS xs k = some (r, ()) ∧ -1 ≤ r ∧ r ≤ k ∧ (r < 0 ∨ (SmL (fun _ => True)) xs) := by
  obtain ⟨b0, b1⟩ := hb
  have b0 : xs.length ≤ 9223372036854775807 := b0
  rw [laws_szEntryS_eq]
  simp only [cond_dec, w64 (n := k - (xs.length : Int)) (by omega) (by omega)]
  by_cases c : k - (xs.length : Int) < 0
  · rw [if_pos c]; exact ⟨_, rfl, by omega, by omega, .inl (by omega)⟩
  rw [if_neg c]
  obtain ⟨r, e, l, u, s⟩ := szEntryS_l xs (by omega) b1 xs 0 (k - xs.length) (by omega) (by omega) rfl (by omega) (by omega)
  exact ⟨r, e, l, by omega, s.imp id fun h => ⟨by omega, fun _ _ => trivial⟩⟩
def Sm_laws_Replica (x : laws_Replica) : Prop := Sm_laws_Config x.Conf ∧ (SmL (fun _ => True)) x.Log ∧ True
theorem eta_laws_Replica (x : laws_Replica) : laws_Replica.mk x.Conf x.Ready x.Log = x := rfl
def Sm_impl_Replica (x : impl_Replica) : Prop := Sm_impl_Config x.Conf ∧ (SmL (fun _ => True)) x.Log ∧ True
theorem eta_impl_Replica (x : impl_Replica) : impl_Replica.mk x.Conf x.Ready x.Log = x := rfl
def cvReplica (x : laws_Replica) : impl_Replica := ⟨cvConfig x.Conf, x.Ready, (List.map cvEntry) x.Log⟩
theorem toReplica_f (x : laws_Replica) (h : Sm_laws_Replica x) : laws_toReplica x = some (cvReplica x, ()) := by
  rw [laws_toReplica_eq, toConfig_f x.Conf h.1, Option.bind_some, toEntryS_f x.Log h.2.1, Option.bind_some]; rfl
theorem Sm_cvReplica {x : laws_Replica} (h : Sm_laws_Replica x) : Sm_impl_Replica (cvReplica x) := ⟨Sm_cvConfig h.1, SmL.map h.2.1 fun x h => trivial, trivial⟩
theorem eqReplica_self (x : impl_Replica) (h : Sm_impl_Replica x) : laws_eqReplica x x = some (true, ()) := by
  rw [laws_eqReplica_eq]; simp [sEq_dec, beqB_self', eqConfig_self x.Conf h.1, eqEntryS_self x.Log h.2.1]
theorem szReplica_f (x : laws_Replica) (k : Int) (h0 : 0 ≤ k) (h1 : k ≤ 1048576) (hb : Bnd Y_laws_Replica x) : ∃ r, laws_szReplica x k = some (r, ()) ∧ -1 ≤ r ∧ r ≤ k ∧ (r < 0 ∨ Sm_laws_Replica x) := by
  obtain ⟨_, b0, b1, b2, _⟩ := hb
  rw [laws_szReplica_eq]
  obtain ⟨r1, e1, l1, u1, s1⟩ := szConfig_f x.Conf k (by omega) (by omega) b0
  rw [e1, Option.bind_some, cond_dec]
  by_cases n1 : r1 < 0
  · rw [if_pos n1]; exact ⟨-1, rfl, by omega, by omega, .inl (by omega)⟩
  rw [if_neg n1]
  obtain ⟨r2, e2, l2, u2, s2⟩ := szEntryS_f x.Log r1 (by omega) (by omega) b2
  rw [e2, Option.bind_some, cond_dec]
  by_cases n2 : r2 < 0
  · rw [if_pos n2]; exact ⟨-1, rfl, by omega, by omega, .inl (by omega)⟩
  rw [if_neg n2]
  exact ⟨_, rfl, by omega, by omega, .inr ⟨s1.resolve_left n1, s2.resolve_left n2, trivial⟩⟩
theorem toReplicaS_f (xs : List laws_Replica) (h : (SmL Sm_laws_Replica) xs) : laws_toReplicaS xs = some (xs.map cvReplica, ()) := by
  have hx := h.1
  rw [laws_toReplicaS_eq]
  simp only [cond_dec, if_pos (show (0 : Int) ≤ (xs.length : Int) by omega), if_pos (show (xs.length : Int) ≤ (xs.length : Int) by omega), if_pos (show (72 : Int) * (xs.length : Int) ≤ 281474976710656 by omega), Int.toNat_natCast]
  refine copy_loop0 (xs.map cvReplica) _ z_impl_Replica xs.length (by simp) (by simp) (fun l => (l, ())) (fun zs i => laws_toReplicaS_3 xs i zs) (fun zs i h0 h1 hl => ?_)
  rw [laws_toReplicaS_3_eq]
  by_cases hi : i < (xs.length : Int)
  · have hm := h.2 _ (rd_mem (d := z_laws_Replica) h0 hi)
    simp only [cond_dec, if_pos hi, if_pos h0, eta_laws_Replica, toReplica_f _ hm, eta_impl_Replica, Option.bind_some, if_pos (show i < (zs.length : Int) by omega), w64 (n := i + 1) (by omega) (by omega), rd_map cvReplica xs i.toNat z_laws_Replica _ (by omega)]
  · simp only [cond_dec, if_neg hi]
theorem eqReplicaS_self (xs : List impl_Replica) (h : (SmL Sm_impl_Replica) xs) : laws_eqReplicaS xs xs = some (true, ()) := by
  have hx := h.1
  rw [laws_eqReplicaS_eq, decide_eq_true rfl]
  refine refl_loop0 (true, ()) xs.length (fun i => laws_eqReplicaS_4 xs xs i) (fun i h0 h1 => ?_)
  rw [laws_eqReplicaS_4_eq]
  by_cases hi : i < (xs.length : Int)
  · have hm := h.2 _ (rd_mem (d := z_impl_Replica) h0 hi)
    simp only [cond_dec, eta_impl_Replica, eqReplica_self _ hm, Option.bind_some, Bool.not_true, cond_false, if_pos h0, if_pos hi, w64 (n := i + 1) (by omega) (by omega)]
  · simp only [cond_dec, if_neg hi]
theorem szReplicaS_l (xs : List laws_Replica) (hx : xs.length ≤ 1048576) (hB : ∀ x ∈ xs, Bnd Y_laws_Replica x) : ∀ (ys : List laws_Replica) (i k : Int), 0 ≤ i → i ≤ xs.length → xs.drop i.toNat = ys → 0 ≤ k → k ≤ 1048576 → ∃ r, laws_szReplicaS_5 xs k i = some (r, ()) ∧ -1 ≤ r ∧ r ≤ k ∧ (r < 0 ∨ ∀ x ∈ ys, Sm_laws_Replica x)
  | [], i, k, h0, h1, hd, h2, h3 => by
    have := drop_nil h0 h1 hd
    rw [laws_szReplicaS_5_eq, cond_dec, if_neg (by omega)]; exact ⟨_, rfl, by omega, by omega, .inr (fun x hx => by cases hx)⟩
  | y :: ys, i, k, h0, h1, hd, h2, h3 => by
    obtain ⟨hr, hl, hd'⟩ := rd_drop (d := z_laws_Replica) h0 hd
    have hm : y ∈ xs := by rw [← hr]; exact rd_mem h0 hl
    obtain ⟨r, e, l, u, s⟩ := szReplica_f y k h2 h3 (hB y hm)
    rw [laws_szReplicaS_5_eq]
    simp only [cond_dec, if_pos hl, if_pos h0, hr, eta_laws_Replica, e, Option.bind_some, w64 (n := i + 1) (by omega) (by omega)]
    by_cases c : r < 0
    · rw [if_pos c]; exact ⟨_, rfl, by omega, by omega, .inl (by omega)⟩
    · rw [if_neg c]
      obtain ⟨q, e2, l2, u2, s2⟩ := szReplicaS_l xs hx hB ys (i + 1) r (by omega) (by omega) hd' (by omega) (by omega)
      exact ⟨q, e2, l2, by omega, s2.imp id fun h x hx => by
        rcases List.mem_cons.1 hx with rfl | hx
        · exact s.resolve_left c
        · exact h x hx⟩
theorem szReplicaS_f (xs : List laws_Replica) (k : Int) (h0 : 0 ≤ k) (h1 : k ≤ 1048576) (hb : Bnd (.sl Y_laws_Replica) xs) : ∃ r, laws_szReplicaS xs k = some (r, ()) ∧ -1 ≤ r ∧ r ≤ k ∧ (r < 0 ∨ (SmL Sm_laws_Replica) xs) := by
  obtain ⟨b0, b1⟩ := hb
  have b0 : xs.length ≤ 9223372036854775807 := b0
  rw [laws_szReplicaS_eq]
  simp only [cond_dec, w64 (n := k - (xs.length : Int)) (by omega) (by omega)]
  by_cases c : k - (xs.length : Int) < 0
  · rw [if_pos c]; exact ⟨_, rfl, by omega, by omega, .inl (by omega)⟩
  rw [if_neg c]
  obtain ⟨r, e, l, u, s⟩ := szReplicaS_l xs (by omega) b1 xs 0 (k - xs.length) (by omega) (by omega) rfl (by omega) (by omega)
  exact ⟨r, e, l, by omega, s.imp id fun h => ⟨by omega, h⟩⟩
theorem toBoolS_f (xs : List Bool) (h : (SmL (fun _ => True)) xs) : laws_toBoolS xs = some (xs, ()) := by
  have hx := h.1
  rw [laws_toBoolS_eq]
  simp only [cond_dec, if_pos (show (0 : Int) ≤ (xs.length : Int) by omega), if_pos (show (xs.length : Int) ≤ (xs.length : Int) by omega), if_pos (show (1 : Int) * (xs.length : Int) ≤ 281474976710656 by omega), Int.toNat_natCast]
  refine copy_loop0 (xs) _ false xs.length (by simp) (by simp) (fun l => (l, ())) (fun zs i => laws_toBoolS_3 xs i zs) (fun zs i h0 h1 hl => ?_)
  rw [laws_toBoolS_3_eq]
  by_cases hi : i < (xs.length : Int)
  · simp only [cond_dec, if_pos hi, if_pos h0, if_pos (show i < (zs.length : Int) by omega), w64 (n := i + 1) (by omega) (by omega)]
  · simp only [cond_dec, if_neg hi]
theorem eqBoolS_self (xs : List Bool) (h : (SmL (fun _ => True)) xs) : laws_eqBoolS xs xs = some (true, ()) := by
  have hx := h.1
  rw [laws_eqBoolS_eq, decide_eq_true rfl]
  refine refl_loop0 (true, ()) xs.length (fun i => laws_eqBoolS_4 xs xs i) (fun i h0 h1 => ?_)
  rw [laws_eqBoolS_4_eq]
  by_cases hi : i < (xs.length : Int)
  · simp only [cond_dec, decide_true, sEq_dec, beqB_self', Bool.not_true, cond_false, if_pos h0, if_pos hi, w64 (n := i + 1) (by omega) (by omega)]
  · simp only [cond_dec, if_neg hi]
theorem szBoolS_f (xs : List Bool) (k : Int) (h0 : 0 ≤ k) (h1 : k ≤ 1048576) (hb : Bnd (.sl .bool) xs) : ∃ r, laws_szBoolS xs k = some (r, ()) ∧ -1 ≤ r ∧ r ≤ k ∧ (r < 0 ∨ (SmL (fun _ => True)) xs) := by
  obtain ⟨b0, b1⟩ := hb
  have b0 : xs.length ≤ 9223372036854775807 := b0
  rw [laws_szBoolS_eq]
  simp only [cond_dec, w64 (n := k - (xs.length : Int)) (by omega) (by omega)]
  by_cases c : k - (xs.length : Int) < 0
  · rw [if_pos c]; exact ⟨_, rfl, by omega, by omega, .inl (by omega)⟩
  rw [if_neg c]
  exact ⟨_, rfl, by omega, by omega, .inr ⟨by omega, fun _ _ => trivial⟩⟩
def Sm_laws_Message (x : laws_Message) : Prop := Sm_laws_Config x.Conf ∧ (SmL (fun _ => True)) x.Log ∧ True
theorem eta_laws_Message (x : laws_Message) : laws_Message.mk x.Kind x.To x.Epoch x.Conf x.Log = x := rfl
def Sm_impl_Message (x : impl_Message) : Prop := Sm_impl_Config x.Conf ∧ (SmL (fun _ => True)) x.Log ∧ True
theorem eta_impl_Message (x : impl_Message) : impl_Message.mk x.Kind x.To x.Epoch x.Conf x.Log = x := rfl
def cvMessage (x : laws_Message) : impl_Message := ⟨x.Kind, x.To, x.Epoch, cvConfig x.Conf, (List.map cvEntry) x.Log⟩
theorem toMessage_f (x : laws_Message) (h : Sm_laws_Message x) : laws_toMessage x = some (cvMessage x, ()) := by
  rw [laws_toMessage_eq, toConfig_f x.Conf h.1, Option.bind_some, toEntryS_f x.Log h.2.1, Option.bind_some]; rfl
theorem Sm_cvMessage {x : laws_Message} (h : Sm_laws_Message x) : Sm_impl_Message (cvMessage x) := ⟨Sm_cvConfig h.1, SmL.map h.2.1 fun x h => trivial, trivial⟩
theorem eqMessage_self (x : impl_Message) (h : Sm_impl_Message x) : laws_eqMessage x x = some (true, ()) := by
  rw [laws_eqMessage_eq]; simp [sEq_dec, beqB_self', eqConfig_self x.Conf h.1, eqEntryS_self x.Log h.2.1]
theorem szMessage_f (x : laws_Message) (k : Int) (h0 : 0 ≤ k) (h1 : k ≤ 1048576) (hb : Bnd Y_laws_Message x) : ∃ r, laws_szMessage x k = some (r, ()) ∧ -1 ≤ r ∧ r ≤ k ∧ (r < 0 ∨ Sm_laws_Message x) := by
  obtain ⟨_, b0, b1, b2, b3, b4, _⟩ := hb
  rw [laws_szMessage_eq]
  obtain ⟨r1, e1, l1, u1, s1⟩ := szConfig_f x.Conf k (by omega) (by omega) b3
  rw [e1, Option.bind_some, cond_dec]
  by_cases n1 : r1 < 0
  · rw [if_pos n1]; exact ⟨-1, rfl, by omega, by omega, .inl (by omega)⟩
  rw [if_neg n1]
  obtain ⟨r2, e2, l2, u2, s2⟩ := szEntryS_f x.Log r1 (by omega) (by omega) b4
  rw [e2, Option.bind_some, cond_dec]
  by_cases n2 : r2 < 0
  · rw [if_pos n2]; exact ⟨-1, rfl, by omega, by omega, .inl (by omega)⟩
  rw [if_neg n2]
  exact ⟨_, rfl, by omega, by omega, .inr ⟨s1.resolve_left n1, s2.resolve_left n2, trivial⟩⟩
theorem toMessageS_f (xs : List laws_Message) (h : (SmL Sm_laws_Message) xs) : laws_toMessageS xs = some (xs.map cvMessage, ()) := by
  have hx := h.1
  rw [laws_toMessageS_eq]
  simp only [cond_dec, if_pos (show (0 : Int) ≤ (xs.length : Int) by omega), if_pos (show (xs.length : Int) ≤ (xs.length : Int) by omega), if_pos (show (88 : Int) * (xs.length : Int) ≤ 281474976710656 by omega), Int.toNat_natCast]
  refine copy_loop0 (xs.map cvMessage) _ z_impl_Message xs.length (by simp) (by simp) (fun l => (l, ())) (fun zs i => laws_toMessageS_3 xs i zs) (fun zs i h0 h1 hl => ?_)
  rw [laws_toMessageS_3_eq]
  by_cases hi : i < (xs.length : Int)
  · have hm := h.2 _ (rd_mem (d := z_laws_Message) h0 hi)
    simp only [cond_dec, if_pos hi, if_pos h0, eta_laws_Message, toMessage_f _ hm, eta_impl_Message, Option.bind_some, if_pos (show i < (zs.length : Int) by omega), w64 (n := i + 1) (by omega) (by omega), rd_map cvMessage xs i.toNat z_laws_Message _ (by omega)]
  · simp only [cond_dec, if_neg hi]
theorem eqMessageS_self (xs : List impl_Message) (h : (SmL Sm_impl_Message) xs) : laws_eqMessageS xs xs = some (true, ()) := by
  have hx := h.1
  rw [laws_eqMessageS_eq, decide_eq_true rfl]
  refine refl_loop0 (true, ()) xs.length (fun i => laws_eqMessageS_4 xs xs i) (fun i h0 h1 => ?_)
  rw [laws_eqMessageS_4_eq]
  by_cases hi : i < (xs.length : Int)
  · have hm := h.2 _ (rd_mem (d := z_impl_Message) h0 hi)
    simp only [cond_dec, eta_impl_Message, eqMessage_self _ hm, Option.bind_some, Bool.not_true, cond_false, if_pos h0, if_pos hi, w64 (n := i + 1) (by omega) (by omega)]
  · simp only [cond_dec, if_neg hi]
theorem szMessageS_l (xs : List laws_Message) (hx : xs.length ≤ 1048576) (hB : ∀ x ∈ xs, Bnd Y_laws_Message x) : ∀ (ys : List laws_Message) (i k : Int), 0 ≤ i → i ≤ xs.length → xs.drop i.toNat = ys → 0 ≤ k → k ≤ 1048576 → ∃ r, laws_szMessageS_5 xs k i = some (r, ()) ∧ -1 ≤ r ∧ r ≤ k ∧ (r < 0 ∨ ∀ x ∈ ys, Sm_laws_Message x)
  | [], i, k, h0, h1, hd, h2, h3 => by
    have := drop_nil h0 h1 hd
    rw [laws_szMessageS_5_eq, cond_dec, if_neg (by omega)]; exact ⟨_, rfl, by omega, by omega, .inr (fun x hx => by cases hx)⟩
  | y :: ys, i, k, h0, h1, hd, h2, h3 => by
    obtain ⟨hr, hl, hd'⟩ := rd_drop (d := z_laws_Message) h0 hd
    have hm : y ∈ xs := by rw [← hr]; exact rd_mem h0 hl
    obtain ⟨r, e, l, u, s⟩ := szMessage_f y k h2 h3 (hB y hm)
    rw [laws_szMessageS_5_eq]
    simp only [cond_dec, if_pos hl, if_pos h0, hr, eta_laws_Message, e, Option.bind_some, w64 (n := i + 1) (by omega) (by omega)]
    by_cases c : r < 0
    · rw [if_pos c]; exact ⟨_, rfl, by omega, by omega, .inl (by omega)⟩
    · rw [if_neg c]
      obtain ⟨q, e2, l2, u2, s2⟩ := szMessageS_l xs hx hB ys (i + 1) r (by omega) (by omega) hd' (by omega) (by omega)
      exact ⟨q, e2, l2, by omega, s2.imp id fun h x hx => by
        rcases List.mem_cons.1 hx with rfl | hx
        · exact s.resolve_left c
        · exact h x hx⟩
theorem szMessageS_f (xs : List laws_Message) (k : Int) (h0 : 0 ≤ k) (h1 : k ≤ 1048576) (hb : Bnd (.sl Y_laws_Message) xs) : ∃ r, laws_szMessageS xs k = some (r, ()) ∧ -1 ≤ r ∧ r ≤ k ∧ (r < 0 ∨ (SmL Sm_laws_Message) xs) := by
  obtain ⟨b0, b1⟩ := hb
  have b0 : xs.length ≤ 9223372036854775807 := b0
  rw [laws_szMessageS_eq]
  simp only [cond_dec, w64 (n := k - (xs.length : Int)) (by omega) (by omega)]
  by_cases c : k - (xs.length : Int) < 0
  · rw [if_pos c]; exact ⟨_, rfl, by omega, by omega, .inl (by omega)⟩
  rw [if_neg c]
  obtain ⟨r, e, l, u, s⟩ := szMessageS_l xs (by omega) b1 xs 0 (k - xs.length) (by omega) (by omega) rfl (by omega) (by omega)
  exact ⟨r, e, l, by omega, s.imp id fun h => ⟨by omega, h⟩⟩
theorem toAnswerS_f (xs : List laws_Answer) (h : (SmL (fun _ => True)) xs) : laws_toAnswerS xs = some (xs.map cvAnswer, ()) := by
  have hx := h.1
  rw [laws_toAnswerS_eq]
  simp only [cond_dec, if_pos (show (0 : Int) ≤ (xs.length : Int) by omega), if_pos (show (xs.length : Int) ≤ (xs.length : Int) by omega), if_pos (show (64 : Int) * (xs.length : Int) ≤ 281474976710656 by omega), Int.toNat_natCast]
  refine copy_loop0 (xs.map cvAnswer) _ z_impl_Answer xs.length (by simp) (by simp) (fun l => (l, ())) (fun zs i => laws_toAnswerS_3 xs i zs) (fun zs i h0 h1 hl => ?_)
  rw [laws_toAnswerS_3_eq]
  by_cases hi : i < (xs.length : Int)
  · have hm := h.2 _ (rd_mem (d := z_laws_Answer) h0 hi)
    simp only [cond_dec, if_pos hi, if_pos h0, eta_laws_Answer, toAnswer_f _, eta_impl_Answer, Option.bind_some, if_pos (show i < (zs.length : Int) by omega), w64 (n := i + 1) (by omega) (by omega), rd_map cvAnswer xs i.toNat z_laws_Answer _ (by omega)]
  · simp only [cond_dec, if_neg hi]
theorem eqAnswerS_self (xs : List impl_Answer) (h : (SmL (fun _ => True)) xs) : laws_eqAnswerS xs xs = some (true, ()) := by
  have hx := h.1
  rw [laws_eqAnswerS_eq, decide_eq_true rfl]
  refine refl_loop0 (true, ()) xs.length (fun i => laws_eqAnswerS_4 xs xs i) (fun i h0 h1 => ?_)
  rw [laws_eqAnswerS_4_eq]
  by_cases hi : i < (xs.length : Int)
  · have hm := h.2 _ (rd_mem (d := z_impl_Answer) h0 hi)
    simp only [cond_dec, eta_impl_Answer, eqAnswer_self _, Option.bind_some, Bool.not_true, cond_false, if_pos h0, if_pos hi, w64 (n := i + 1) (by omega) (by omega)]
  · simp only [cond_dec, if_neg hi]
theorem szAnswerS_l (xs : List laws_Answer) (hx : xs.length ≤ 1048576) (hB : ∀ x ∈ xs, Bnd Y_laws_Answer x) : ∀ (ys : List laws_Answer) (i k : Int), 0 ≤ i → i ≤ xs.length → xs.drop i.toNat = ys → 0 ≤ k → k ≤ 1048576 → ∃ r, laws_szAnswerS_5 xs k i = some (r, ()) ∧ -1 ≤ r ∧ r ≤ k ∧ (r < 0 ∨ True)
  | [], i, k, h0, h1, hd, h2, h3 => by
    have := drop_nil h0 h1 hd
    rw [laws_szAnswerS_5_eq, cond_dec, if_neg (by omega)]; exact ⟨_, rfl, by omega, by omega, .inr trivial⟩
  | y :: ys, i, k, h0, h1, hd, h2, h3 => by
    obtain ⟨hr, hl, hd'⟩ := rd_drop (d := z_laws_Answer) h0 hd
    have hm : y ∈ xs := by rw [← hr]; exact rd_mem h0 hl
    obtain ⟨r, e, l, u, s⟩ := szAnswer_f y k h2 h3 (hB y hm)
    rw [laws_szAnswerS_5_eq]
    simp only [cond_dec, if_pos hl, if_pos h0, hr, eta_laws_Answer, e, Option.bind_some, w64 (n := i + 1) (by omega) (by omega)]
    by_cases c : r < 0
    · rw [if_pos c]; exact ⟨_, rfl, by omega, by omega, .inl (by omega)⟩
    · rw [if_neg c]
      obtain ⟨q, e2, l2, u2, s2⟩ := szAnswerS_l xs hx hB ys (i + 1) r (by omega) (by omega) hd' (by omega) (by omega)
      exact ⟨q, e2, l2, by omega, .inr trivial⟩
theorem szAnswerS_f (xs : List laws_Answer) (k : Int) (h0 : 0 ≤ k) (h1 : k ≤ 1048576) (hb : Bnd (.sl Y_laws_Answer) xs) : ∃ r, laws_szAnswerS xs k = some (r, ()) ∧ -1 ≤ r ∧ r ≤ k ∧ (r < 0 ∨ (SmL (fun _ => True)) xs) := by
  obtain ⟨b0, b1⟩ := hb
  have b0 : xs.length ≤ 9223372036854775807 := b0
  rw [laws_szAnswerS_eq]
  simp only [cond_dec, w64 (n := k - (xs.length : Int)) (by omega) (by omega)]
  by_cases c : k - (xs.length : Int) < 0
  · rw [if_pos c]; exact ⟨_, rfl, by omega, by omega, .inl (by omega)⟩
  rw [if_neg c]
  obtain ⟨r, e, l, u, s⟩ := szAnswerS_l xs (by omega) b1 xs 0 (k - xs.length) (by omega) (by omega) rfl (by omega) (by omega)
  exact ⟨r, e, l, by omega, s.imp id fun h => ⟨by omega, fun _ _ => trivial⟩⟩
def Sm_laws_Chain (x : laws_Chain) : Prop := Sm_laws_State x.Base ∧ Sm_laws_Config x.Conf ∧ (SmL Sm_laws_Replica) x.Nodes ∧ (SmL (fun _ => True)) x.Up ∧ (SmL Sm_laws_Message) x.Bag ∧ (SmL (fun _ => True)) x.Answers ∧ True
theorem eta_laws_Chain (x : laws_Chain) : laws_Chain.mk x.Base x.Conf x.Nodes x.Up x.Bag x.Answers = x := rfl
def Sm_impl_Chain (x : impl_Chain) : Prop := Sm_impl_State x.Base ∧ Sm_impl_Config x.Conf ∧ (SmL Sm_impl_Replica) x.Nodes ∧ (SmL (fun _ => True)) x.Up ∧ (SmL Sm_impl_Message) x.Bag ∧ (SmL (fun _ => True)) x.Answers ∧ True
theorem eta_impl_Chain (x : impl_Chain) : impl_Chain.mk x.Base x.Conf x.Nodes x.Up x.Bag x.Answers = x := rfl
def cvChain (x : laws_Chain) : impl_Chain := ⟨cvState x.Base, cvConfig x.Conf, (List.map cvReplica) x.Nodes, x.Up, (List.map cvMessage) x.Bag, (List.map cvAnswer) x.Answers⟩
theorem toChain_f (x : laws_Chain) (h : Sm_laws_Chain x) : laws_toChain x = some (cvChain x, ()) := by
  rw [laws_toChain_eq, toState_f x.Base h.1, Option.bind_some, toConfig_f x.Conf h.2.1, Option.bind_some, toReplicaS_f x.Nodes h.2.2.1, Option.bind_some, toBoolS_f x.Up h.2.2.2.1, Option.bind_some, toMessageS_f x.Bag h.2.2.2.2.1, Option.bind_some, toAnswerS_f x.Answers h.2.2.2.2.2.1, Option.bind_some]; rfl
theorem Sm_cvChain {x : laws_Chain} (h : Sm_laws_Chain x) : Sm_impl_Chain (cvChain x) := ⟨Sm_cvState h.1, Sm_cvConfig h.2.1, SmL.map h.2.2.1 fun x h => Sm_cvReplica h, h.2.2.2.1, SmL.map h.2.2.2.2.1 fun x h => Sm_cvMessage h, SmL.map h.2.2.2.2.2.1 fun x h => trivial, trivial⟩
theorem eqChain_self (x : impl_Chain) (h : Sm_impl_Chain x) : laws_eqChain x x = some (true, ()) := by
  rw [laws_eqChain_eq]; simp [sEq_dec, beqB_self', eqState_self x.Base h.1, eqConfig_self x.Conf h.2.1, eqReplicaS_self x.Nodes h.2.2.1, eqBoolS_self x.Up h.2.2.2.1, eqMessageS_self x.Bag h.2.2.2.2.1, eqAnswerS_self x.Answers h.2.2.2.2.2.1]
theorem szChain_f (x : laws_Chain) (k : Int) (h0 : 0 ≤ k) (h1 : k ≤ 1048576) (hb : Bnd Y_laws_Chain x) : ∃ r, laws_szChain x k = some (r, ()) ∧ -1 ≤ r ∧ r ≤ k ∧ (r < 0 ∨ Sm_laws_Chain x) := by
  obtain ⟨_, b0, b1, b2, b3, b4, b5, _⟩ := hb
  rw [laws_szChain_eq]
  obtain ⟨r1, e1, l1, u1, s1⟩ := szState_f x.Base k (by omega) (by omega) b0
  rw [e1, Option.bind_some, cond_dec]
  by_cases n1 : r1 < 0
  · rw [if_pos n1]; exact ⟨-1, rfl, by omega, by omega, .inl (by omega)⟩
  rw [if_neg n1]
  obtain ⟨r2, e2, l2, u2, s2⟩ := szConfig_f x.Conf r1 (by omega) (by omega) b1
  rw [e2, Option.bind_some, cond_dec]
  by_cases n2 : r2 < 0
  · rw [if_pos n2]; exact ⟨-1, rfl, by omega, by omega, .inl (by omega)⟩
  rw [if_neg n2]
  obtain ⟨r3, e3, l3, u3, s3⟩ := szReplicaS_f x.Nodes r2 (by omega) (by omega) b2
  rw [e3, Option.bind_some, cond_dec]
  by_cases n3 : r3 < 0
  · rw [if_pos n3]; exact ⟨-1, rfl, by omega, by omega, .inl (by omega)⟩
  rw [if_neg n3]
  obtain ⟨r4, e4, l4, u4, s4⟩ := szBoolS_f x.Up r3 (by omega) (by omega) b3
  rw [e4, Option.bind_some, cond_dec]
  by_cases n4 : r4 < 0
  · rw [if_pos n4]; exact ⟨-1, rfl, by omega, by omega, .inl (by omega)⟩
  rw [if_neg n4]
  obtain ⟨r5, e5, l5, u5, s5⟩ := szMessageS_f x.Bag r4 (by omega) (by omega) b4
  rw [e5, Option.bind_some, cond_dec]
  by_cases n5 : r5 < 0
  · rw [if_pos n5]; exact ⟨-1, rfl, by omega, by omega, .inl (by omega)⟩
  rw [if_neg n5]
  obtain ⟨r6, e6, l6, u6, s6⟩ := szAnswerS_f x.Answers r5 (by omega) (by omega) b5
  rw [e6, Option.bind_some, cond_dec]
  by_cases n6 : r6 < 0
  · rw [if_pos n6]; exact ⟨-1, rfl, by omega, by omega, .inl (by omega)⟩
  rw [if_neg n6]
  exact ⟨_, rfl, by omega, by omega, .inr ⟨s1.resolve_left n1, s2.resolve_left n2, s3.resolve_left n3, s4.resolve_left n4, s5.resolve_left n5, s6.resolve_left n6, trivial⟩⟩
end Go.Proofs.YtpdmjnejnplhnaaGreat.Ev
